/- Contracts and plain laws that the last text rests on. Conditions: each theorem states its own. -/
import Derived.Test.YtfljcllpmbnjaaaGreatKdQ3
import Derived.Test.YtfljcllpmbnjaaaGreatKdPdLaw
import Derived.Test.YtfljcllpmbnjaaaGreatKdQ1
import Derived.Deep.RegionLaw
import Derived.Deep.DeepCutAuto
import Derived.Deep.DrawnRows
import Derived.Laws.MakeOwn
import Derived.BigRegion
set_option maxRecDepth 100000
set_option maxHeartbeats 8000000
set_option linter.unusedVariables false
namespace Go.Proofs.YtfljcllpmbnjaaaGreat
open Go.RowKit
theorem Tryz.info3:(Tryz.prog.info? 3).map (fun i=>(i.zero,i.size,i.bytes))=some (some (.int .i64 0),1,8):=by kernel_rfl
theorem Tryz.SB:(Tryz.prog.info? 71).map (fun i=>(i.zero,i.size,i.bytes))=some (some (.int .u32 0),1,4):=by kernel_rfl
theorem z3I {P:Program} (t e:TypeId) (i:TypeInfo) (z:Value) (ht:P.underlying t=some (.slice e)) (hi:P.info? e=some i) (hz:i.zero=some z)
 (kl kc:IntKind) (n c:Nat) (hnc:n<=c) (hbytes:i.bytes * c<=281474976710656) (h63:c<=9223372036854775807) (w:World):
 (Instr.makeSlice t (.int kl (n:Int)) (.int kc (c:Int))).run P w=.ok (.slice (some ⟨w.heap.size,0,none⟩) n c) (w.alloc (.cells (madeCells z.cells (c * i.size)) e)):=by
 have hb:(i.bytes:Int) * (c:Int)<=281474976710656:=by
  have h:((i.bytes * c:Nat):Int)<=281474976710656:=by omega
  rwa [Int.natCast_mul]at h
 have hr:=run_make (P:=P) w t e i z ht hi hz kl kc n c (by omega) (by omega) hb (by omega);simp only[Int.toNat_natCast]at hr;exact hr
theorem uj {P:Program} {ops:Array Oper} {rest:List Oper} {o:Oper} {a:Act} {Q:Exit->Act->World->Prop} (B:Nat) {w:World} (hB:w.heap.size=B) (hgd:o.guard=none) (s x:Operand) (t:TypeId)
 (ho:o.op=.call { callee:=.builtin .append,args:= #[s,x],argTypes:= #[t,t]})
 (e:TypeId) (i:TypeInfo) (z:Value) (bytes:Nat) (ht:P.underlying t=some (.slice e)) (hi:P.info? e=some i) (hz:i.zero=some z)
 (hsize:i.size=1) (hby:i.bytes=bytes) (hzs:z.cells.size=1)
 {W:World} {v:Value} {n:Nat} {xs:List Value} (u:Value) (hu:u.oneCell'=true) (hs:a.eval s=v) (hown:au W w e 1 v n xs)
 (hx:a.eval x=.slice (some ⟨B,0,none⟩) 1 1)
 (h63:n+1<=maxLen) (hbytes:(n+1) * bytes<=140737488355328)
 (h:∀v' w',au W w' e 1 v' (n+1) (xs++[u])->Moved w w' v v'->wpList P ops Q rest (a.put o.dst v') w'):wpList P ops Q (o::rest) a (w.alloc (.cells #[u] e)):=by
 subst hB;exact z02 hgd s x t ho e i z bytes ht hi hz hsize hby hzs u hu hs hown hx h63 hbytes h
theorem vN {W w0 w1:World} {e:TypeId} {size n b:Nat} {v':Value} {xs:List Value} (hnx:Nx W w0) (hb:W.heap.size<=b)
 (hown:w1.ownsRow W.heap.size e size v' (0+n) ([]++xs)) (hg:w0.grownBy w1 (Value.ownBlock (.slice (some ⟨b,0,none⟩) 0 0)))
 (hat:v'.ownBlock=Value.ownBlock (.slice (some ⟨b,0,none⟩) 0 0)∨v'.ownBlock=some w0.heap.size):
 ∃k cap,v'=.slice (some ⟨k,0,none⟩) n cap/\au W w1 e size (.slice (some ⟨k,0,none⟩) n cap) n xs/\Ch (fun i=>i=b) w0 w1:=by
 have hc:Ch (fun i=>i=b) w0 w1:=(Ch.refl _ w0).grown hg (fun k hk _=>by simpa [Value.ownBlock]using hk.symm)
 obtain ⟨k,hk⟩:∃k,v'.ownBlock=some k:=by
  rcases hat with e|e
  ·exact ⟨_,e⟩
  ·exact ⟨_,e⟩
 simp only[Nat.zero_add,List.nil_append]at hown;obtain ⟨cap,hv,h1,h2⟩:=Ot hown hk;subst hv;exact ⟨k,cap,rfl,⟨hown,hnx.trans hc fun i hi e=>by omega⟩,hc⟩
def AB (lv wv sv:Value) (cn:Nat->Int):Array Value:=
 #[lv,wv,.int .i64 (cn 0),.int .i64 (cn 1),.int .i64 (cn 2),.int .i64 (cn 3),.int .i64 (cn 4),.int .i64 (cn 5),.int .i64 (cn 6),.int .i64 (cn 7),.int .i64 (cn 8),.int .i64 (cn 9),.int .i64 (cn 10),.int .i64 (cn 11),.int .i64 (cn 12),.int .i64 (cn 13),.int .i64 (cn 14),.int .i64 (cn 15),sv]
def wl (ws:List Nat):List Value:=ws.map fun x:Nat=>.int .u32 (x:Int)
structure Mk (W w:World) (t:Nat) (zs:List Int) (ws:List Nat) (cn:Nat->Int) (ss:List Int) (lv wv sv:Value):Prop where
 blk:dD w t 208 (AB lv wv sv cn)
 lo:W.heap.size<=t
 len:au W w 3 1 lv zs.length (il zs)
 ug:au W w 71 1 wv ws.length (wl ws)
 srt:au W w 3 1 sv ss.length (il ss)
theorem RU (n:Nat):(madeCells #[Value.int .u32 0] n).toList=wl (List.replicate n 0):=by
 rw[toList_madeCells_one];simp[wl]
theorem KZ (W w:World) (n:Nat) (c:Nx W w) (hn:n<=maxLen):au W (w.alloc (.cells (madeCells #[.int .u32 0] n) 71)) 71 1 (.slice (some ⟨w.heap.size,0,none⟩) (List.replicate n 0).length n) (List.replicate n 0).length (wl (List.replicate n 0)):=by
 rw[←RU];have e:(List.replicate n 0).length=n:=by simp
 rw[e];exact ⟨World.ownsRow_lit w _ n c.size hn (by simp[size_madeCells]),c.alloc _⟩
theorem Ve (lv wv sv:Value) (cn:Nat->Int) (z:Nat) (hz:z<16):(AB lv wv sv cn)[2+z]?=some (.int .i64 (cn z)):=by
 rcases (show z=0∨z=1∨z=2∨z=3∨z=4∨z=5∨z=6∨z=7∨z=8∨z=9∨z=10∨z=11∨z=12∨z=13∨z=14∨z=15 by omega) with rfl|rfl|rfl|rfl|rfl|rfl|rfl|rfl|rfl|rfl|rfl|rfl|rfl|rfl|rfl|rfl<;>rfl
theorem OZ (lv wv sv:Value) (cn:Nat->Int) (z:Nat) (hz:z<16) (v:Int):(AB lv wv sv cn).setIfInBounds (2+z) (.int .i64 v)=AB lv wv sv (fun m=>if m=z then v else cn m):=by
 rcases (show z=0∨z=1∨z=2∨z=3∨z=4∨z=5∨z=6∨z=7∨z=8∨z=9∨z=10∨z=11∨z=12∨z=13∨z=14∨z=15 by omega) with rfl|rfl|rfl|rfl|rfl|rfl|rfl|rfl|rfl|rfl|rfl|rfl|rfl|rfl|rfl|rfl<;>simp[AB]
theorem BI (lv wv sv sv':Value) (cn:Nat->Int):(AB lv wv sv cn).setIfInBounds 18 sv'=AB lv wv sv' cn:=by simp[AB]
theorem Gf (lv wv sv:Value) {cn Oy:Nat->Int} (h:∀m,m<16->cn m=Oy m):AB lv wv sv cn=AB lv wv sv Oy:=by
 simp only[AB,h 0 (by omega),h 1 (by omega),h 2 (by omega),h 3 (by omega),h 4 (by omega),h 5 (by omega),h 6 (by omega),h 7 (by omega),h 8 (by omega),h 9 (by omega),h 10 (by omega),h 11 (by omega),h 12 (by omega),h 13 (by omega),h 14 (by omega),h 15 (by omega)]
theorem Oq {w:World} {b:Nat} {e t:TypeId} {s n g:Nat} {v:Value} {xs:List Value} {cs:Array Value} (h:w.ownsRow b e s v n xs) (hb:dD w g t cs) (hne:e≠t):∀k,v.ownBlock=some k->k≠g:=by
 rintro k hk rfl;exact EI h hb hne hk
theorem Zw {w:World} {b b':Nat} {e e':TypeId} {s s' n n':Nat} {v v':Value} {xs ys:List Value} (h:w.ownsRow b e s v n xs) (h':w.ownsRow b' e' s' v' n' ys) (hne:e≠e'):∀k,v.ownBlock=some k->v'.ownBlock≠some k:=by
 intro k hk;rcases h.2 with ⟨rfl,_⟩|⟨g,cap,cur,rfl,_,hh,_⟩
 ·simp[Value.ownBlock]at hk
 ·simp[Value.ownBlock]at hk
  subst hk;exact EI h' hh (Ne.symm hne)
namespace Mk
variable {W w w' : World} {t : Nat} {zs ss : List Int} {ws : List Nat} {cn : Nat → Int} {lv wv sv : Value}
theorem Eb {Oy:Nat->Int} (m:Mk W w t zs ws cn ss lv wv sv) (h:∀i,i<16->cn i=Oy i):Mk W w t zs ws Oy ss lv wv sv:=
 ⟨by rw[←Gf lv wv sv h];exact m.blk,m.lo,m.len,m.ug,m.srt⟩
theorem ZP (m:Mk W w t zs ws cn ss lv wv sv) (i:Nat) (v:Value) {lv' wv' sv':Value} {Oy:Nat->Int} (h:(AB lv wv sv cn).setIfInBounds i v=AB lv wv sv Oy):
 Mk W (w.setCell ⟨t,i,none⟩ v) t zs ws Oy ss lv wv sv:=by
 have hc:Ch (fun j=>j=t) w (w.setCell ⟨t,i,none⟩ v):=Ch.setCell (S:=fun j=>j=t) (Ch.refl _ w) (p:=⟨t,i,none⟩) (fun _=>rfl) _;have hlo:=m.lo
 exact ⟨by rw[←h];exact m.blk.dZ i v,m.lo,m.len.ch hc (Oq m.len.own m.blk (by decide)) (fun j hj e=>by omega),
  m.ug.ch hc (Oq m.ug.own m.blk (by decide)) (fun j hj e=>by omega),m.srt.ch hc (Oq m.srt.own m.blk (by decide)) (fun j hj e=>by omega)⟩
theorem count (m:Mk W w t zs ws cn ss lv wv sv) (z:Nat) (hz:z<16) (v:Int):Mk W (w.setCell ⟨t,2+z,none⟩ (.int .i64 v)) t zs ws (fun i=>if i=z then v else cn i) ss lv wv sv:=
 m.ZP (lv':=lv) (wv':=wv) (sv':=sv) (2+z) _ (OZ lv wv sv cn z hz v)
theorem drewN (m:Mk W w t zs ws cn ss lv wv sv) (k:Nat):Mk W (w.drewN k) t zs ws cn ss lv wv sv:=⟨m.blk,m.lo,m.len.drewN k,m.ug.drewN k,m.srt.drewN k⟩
theorem tr (m:Mk W w t zs ws cn ss lv wv sv) (c:Nx w w'):Mk W w' t zs ws cn ss lv wv sv:=⟨m.blk.nx c,m.lo,m.len.tr c,m.ug.tr c,m.srt.tr c⟩
theorem setW {kw c:Nat} (m:Mk W w t zs ws cn ss lv (.slice (some ⟨kw,0,none⟩) ws.length c) sv) (s x:Nat):
 Mk W (w.setCell ⟨kw,s,none⟩ (.int .u32 (x:Int))) t zs (ws.set s x) cn ss lv (.slice (some ⟨kw,0,none⟩) ws.length c) sv:=by
 have hc:Ch (fun j=>j=kw) w (w.setCell ⟨kw,s,none⟩ (.int .u32 (x:Int))):=Ch.setCell (S:=fun j=>j=kw) (Ch.refl _ w) (p:=⟨kw,s,none⟩) (fun _=>rfl) _;have hk:=m.ug.lt kw rfl;have hkt:kw≠t:=Oq m.ug.own m.blk (by decide) kw rfl;have hW:∀i,i<W.heap.size->¬i=kw:=fun i hi e=>by omega
 have hst:=(m.ug.own.stored s (.int .u32 (x:Int))).1;refine ⟨m.blk.ch hc (Ne.symm hkt),m.lo,m.len.ch hc (fun j hj e=>?_) hW,⟨?_,m.ug.nx.trans hc fun i hi e=>hW i hi e⟩,m.srt.ch hc (fun j hj e=>?_) hW⟩
 ·subst e
  exact Zw m.ug.own m.len.own (by decide) j rfl hj
 ·have e:(wl ws).set s (.int .u32 (x:Int))=wl (ws.set s x):=by simp[wl,List.map_set]
  rw[e]at hst;rw[List.length_set];exact hst
 ·subst e
  exact Zw m.ug.own m.srt.own (by decide) j rfl hj
theorem addS {sv':Value} {x:Int} (m:Mk W w t zs ws cn ss lv wv sv) (ha:∀k,sv.ownBlock=some k->lv.ownBlock≠some k) (ho:au W w' 3 1 sv' (ss.length+1) (il ss++[.int .i64 x])) (hm:Moved w w' sv sv'):
 Mk W (w'.setCell ⟨t,18,none⟩ sv') t zs ws cn (ss++[x]) lv wv sv'/\∀k,sv'.ownBlock=some k->lv.ownBlock≠some k:=by
 have hW:∀i,i<W.heap.size->¬sv.ownBlock=some i:=fun i hi e=>by have:=m.srt.lt i e;omega
 have hb:dD w' t 208 (AB lv wv sv cn):=m.blk.ch hm.ch (fun e=>Oq m.srt.own m.blk (by decide) t e rfl);have hc:Ch (fun j=>j=t) w' (w'.setCell ⟨t,18,none⟩ sv'):=Ch.setCell (S:=fun j=>j=t) (Ch.refl _ w') (p:=⟨t,18,none⟩) (fun _=>rfl) _;have hlo:=m.lo;have hT:∀i,i<W.heap.size->¬i=t:=fun i hi e=>by omega
 have hl:=m.len.ch hm.ch (fun k hk e=>ha k e hk) hW;have hw:=m.ug.ch hm.ch (fun k hk e=>Zw m.ug.own m.srt.own (by decide) k hk e) hW;refine ⟨⟨?_,m.lo,hl.ch hc (Oq hl.own hb (by decide)) hT,hw.ch hc (Oq hw.own hb (by decide)) hT,?_⟩,?_⟩
 ·rw[←BI lv wv sv sv' cn]
  exact hb.dZ 18 sv'
 ·have e:il (ss++[x])=il ss++[.int .i64 x]:=by simp[il]
  rw[e,show (ss++[x]).length=ss.length+1 by simp];exact ho.ch hc (Oq ho.own hb (by decide)) hT
 ·intro k hk hk'
  rcases hm.at_ with e|⟨k2,e,h2⟩
  ·exact ha k (e▸hk) hk'
  ·rw[e]at hk
   injection hk with hk;have:=(m.len.lt k hk').2;omega
end Mk
theorem Dn {W w:World} {k kw cap n:Nat} {zs:List Int} (hz:zs.length=n) (ho:au W w 3 1 (.slice (some ⟨k,0,none⟩) n cap) n (il zs)) (hw:au W w 71 1 (.slice (some ⟨kw,0,none⟩) n n) n (wl (List.replicate n 0))):
 Mk W (w.alloc (.cells (AB (.slice (some ⟨k,0,none⟩) n cap) (.slice (some ⟨kw,0,none⟩) n n) (.slice none 0 0) (fun _=>0)) 208)) w.heap.size zs (List.replicate n 0) (fun _=>0) [] (.slice (some ⟨k,0,none⟩) n cap) (.slice (some ⟨kw,0,none⟩) n n) (.slice none 0 0):=
 ⟨dD.new _ _ _,ho.nx.size,by rw[hz];exact ho.alloc _,by rw[List.length_replicate];exact hw.alloc _,au.nil _ _ _ _ (ho.nx.alloc _)⟩
attribute [local go_sem ↓] Go.wp_at_zero Go.wp_at_succ
def codes (zs:List Int):List Nat:=(List.range zs.length).map fun s=>if zs.getD s 0=0 then 0 else dI zs s
def Ox (zs:List Int) (m:Nat):Int:=if m=0 then 0 else (cnt zs m:Int)
def TJ (W:World) (zs:List Int) (e:Ending) (w':World):Prop:=
 (bH zs=0/\∃t lv wv sv,e=.returned (.tuple #[.pointer (some ⟨t,0,none⟩),.int .i64 0])/\Mk W w' t zs (codes zs) (Ox zs) (gQ zs 15) lv wv sv)∨
 (bH zs≠0/\e=.returned (.tuple #[.pointer none,.int .i64 (bH zs)])/\Nx W w')
theorem Ia {zs:List Int} (hl:zs.length<=320) {k:Nat} (hk:k<zs.length) (h:zs[k]<0∨15<zs[k]):bH zs=1:=by
 unfold bH;rw[if_neg (by omega),if_pos ⟨zs[k],List.getElem_mem hk,h⟩]
def gY (zs:List Int) (j s:Nat):List Nat:=(List.range zs.length).map fun i=>if (0<zs.getD i 0/\zs.getD i 0<(j:Int))∨(zs.getD i 0=(j:Int)/\i<s) then dI zs i else 0
theorem Yo (zs:List Int) (j s:Nat):(gY zs j s).length=zs.length:=by simp[gY]
theorem Bc {zs:List Int} (h:∀i,i<zs.length->0<=zs.getD i 0):gY zs 1 0=List.replicate zs.length 0:=by
 unfold gY;rw[List.map_congr_left (g:=fun _=>0) (fun i hi=>by rw[if_neg (by omega)]),List.map_const'];simp
theorem JI {zs:List Int} (h:∀i,i<zs.length->0<=zs.getD i 0/\zs.getD i 0<=15):gY zs 16 0=codes zs:=by
 unfold gY codes;refine List.map_congr_left fun i hi=>?_;have:=h i (List.mem_range.1 hi);by_cases e:zs.getD i 0=0
 ·rw[if_pos e,if_neg (by omega)]
 ·rw[if_neg e,if_pos (by omega)]
theorem FW {zs:List Int} (j:Nat) (hj:0<j):gY zs (j+1) 0=gY zs j zs.length:=by
 unfold gY;refine List.map_congr_left fun i hi=>?_;have:=List.mem_range.1 hi;by_cases e:(0<zs.getD i 0/\zs.getD i 0<(j:Int))∨(zs.getD i 0=(j:Int)/\i<zs.length)
 ·rw[if_pos e,if_pos (by omega)]
 ·rw[if_neg e,if_neg (by omega)]
theorem FV {zs:List Int} (j s:Nat) (hs:s<zs.length) (h:zs[s]≠(j:Int)):gY zs j (s+1)=gY zs j s:=by
 unfold gY;refine List.map_congr_left fun i hi=>?_;have hg:zs.getD s 0=zs[s]:=by simp[List.getD,hs]
 by_cases e:i=s
 ·subst e
  by_cases e2:0<zs.getD i 0/\zs.getD i 0<(j:Int)
  ·rw[if_pos (.inl e2),if_pos (.inl e2)]
  ·rw[if_neg (by omega),if_neg (by omega)]
 ·by_cases e2:(0<zs.getD i 0/\zs.getD i 0<(j:Int))∨(zs.getD i 0=(j:Int)/\i<s)
  ·rw[if_pos e2,if_pos (by omega)]
  ·rw[if_neg e2,if_neg (by omega)]
theorem JH {zs:List Int} (j s:Nat) (hs:s<zs.length) (h:zs[s]=(j:Int)) (hj:0<j):gY zs j (s+1)=(gY zs j s).set s (2 * bQ zs (j-1)+rank zs j s):=by
 have hg:zs.getD s 0=zs[s]:=by simp[List.getD,hs]
 have hc:dI zs s=2 * bQ zs (j-1)+rank zs j s:=by
  have e:aZ zs s=j:=by unfold aZ;rw[hg,h];simp
  unfold dI;rw[e]
 apply List.ext_getElem
 ·simp[gY]
 ·intro i h1 h2
  rw[List.getElem_set];simp only[gY,List.getElem_map,List.getElem_range];by_cases e:s=i
  ·subst e
   rw[if_pos rfl,if_pos (.inr ⟨by rw[hg,h],by omega⟩),hc]
  ·rw[if_neg e]
   by_cases e2:(0<zs.getD i 0/\zs.getD i 0<(j:Int))∨(zs.getD i 0=(j:Int)/\i<s)
   ·rw[if_pos e2,if_pos (by omega)]
   ·rw[if_neg e2,if_neg (by omega)]
theorem yX {zs:List Int} (hl:zs.length<=320) (h:∀z∈zs,0<=z/\z<=15):bH zs=if 32768<bQ zs 15∨(bQ zs 15<32768/\0<bZ zs 15/\¬(bZ zs 15=1/\cnt zs 1=1)) then 4 else 0:=by
 unfold bH;rw[if_neg (by omega),if_neg (by rintro ⟨z,hz,hb⟩;have:=h z hz;omega)]
theorem Zl {W w:World} (n:Nat) (c:Nx W w) (hn:n<=maxLen):au W (w.alloc (.cells (madeCells #[.int .u32 0] n) 71)) 71 1 (.slice (some ⟨w.heap.size,0,none⟩) n n) n (wl (List.replicate n 0)):=by
 have:=KZ W w n c hn;simpa using this
set_option maxRecDepth 100000 in
theorem yY (D:Nat->Prop) (A:Option Addr) (n c:Nat) (zs:List Int) (W:World) (hr:Rd W D 1 A n (il zs)) (hzl:zs.length=n) (hn:n<=320):
 Calls Tryz.prog 173 #[.slice A n c] W (TJ W zs):=by
 obtain ⟨i0,hi0,hz0,hz1,hz2⟩:=info_parts Tryz.info3;obtain ⟨i1,hi1,hy0,hy1,hy2⟩:=info_parts Tryz.SB;have hmk:=fun w=>z3I (P:=Tryz.prog) 205 71 i1 _ Tryz.underlying205 hi1 hy0 .i64 .i64 n n (Nat.le_refl _) (by rw[hy2];omega) (by omega) w;rw[hy1]at hmk;simp only[Nat.mul_one]at hmk;have hnn:¬(320<(n:Int)):=by omega
 go_enter Tryz.func173,Tryz.ntmps173;go_wp2_with fail;have h1:(W.alloc (.cells #[] 3)).ownsRow W.heap.size 3 1 (.slice (some ⟨W.heap.size,0,none⟩) 0 0) 0 []:=World.ownsRow_made W #[] 0 (Nat.le_refl _) (by simp[maxLen]) (by simp);have h2:((W.alloc (.cells #[] 3)).alloc (.cells (madeCells #[.int .u32 0] n) 71)).ownsRow W.heap.size 3 1 (.slice (some ⟨W.heap.size,0,none⟩) 0 0) 0 []:=h1.alloc _
 have h3:((W.alloc (.cells (madeCells #[.int .u32 0] n) 71)).alloc (.cells #[] 3)).ownsRow W.heap.size 3 1 (.slice (some ⟨W.heap.size+1,0,none⟩) 0 0) 0 []:=by
  have:=World.ownsRow_made (base:=W.heap.size) (size:=1) (e:=3) (W.alloc (.cells (madeCells #[.int .u32 0] n) 71)) #[] 0 (by simp) (by simp[maxLen]) (by simp);simpa using this
 have FD:=ah hzl;clear hzl;have H1:=ah h1;have H2:=ah h2;have H3:=ah h3;have R1:=ah (hr.nx (by omega) ((Ch.refl _ W).alloc (.cells #[] 3)));have R2:=ah ((hr.nx (by omega) ((Ch.refl _ W).alloc (.cells #[] 3))).nx (by omega) ((Ch.refl _ _).alloc (.cells (madeCells #[.int .u32 0] n) 71)));have R3:=ah ((hr.nx (by omega) ((Ch.refl _ W).alloc (.cells (madeCells #[.int .u32 0] n) 71))).nx (by omega) ((Ch.refl _ _).alloc (.cells #[] 3)));have hil:∀u∈il zs,u.oneCell'=true:=by intro u hu;simp only[il,List.mem_map]at hu;obtain ⟨x,_,rfl⟩:=hu;rfl
 have Xq:=ah hil;clear h1 h2 h3 hil;have N0:Nx W W:=Ch.refl _ W;have N1:=ah (N0.alloc (.cells #[] 3)).drew;have N2:=ah ((N0.alloc (.cells #[] 3)).alloc (.cells (madeCells #[.int .u32 0] n) 71)).drew;have N3:=ah ((N0.alloc (.cells (madeCells #[.int .u32 0] n) 71)).alloc (.cells #[] 3)).drew;clear N0;go_upto_region 3 with fail
 go_cut [4] (fun s4 wx=>∃(t k cap:Nat) (wv:Value),s4=.pointer (some ⟨t,0,none⟩)/\Mk W wx t zs (List.replicate n 0) (fun _=>0) [] (.slice (some ⟨k,0,none⟩) n cap) wv (.slice none 0 0))
 case first=>
  go_region_law (first
   |(refine RQ _ (by rfl) (.tmp 17) (.tmp 18) _ (by rfl) W.heap.size 3 i0 _ 1 8 Tryz.underlying88 hi0 hz0 hz1 hz2 (by rfl) (by omega) (.slice (some ⟨W.heap.size,0,none⟩) 0 0) 0 [] (by rfl) H1.out D A n c (il zs) (by rfl) R1.out Xq.out (by simp only[maxLen];omega) (by omega) (by simp) ?_;intro v' w1 hown hg hat;obtain ⟨k,cap,hv,ho,hc⟩:=vN N1.out (Nat.le_refl _) hown hg hat;clear hown hg hat;rw[hv];clear hv)
   |(refine RQ _ (by rfl) (.tmp 17) (.tmp 18) _ (by rfl) W.heap.size 3 i0 _ 1 8 Tryz.underlying88 hi0 hz0 hz1 hz2 (by rfl) (by omega) (.slice (some ⟨W.heap.size,0,none⟩) 0 0) 0 [] (by rfl) H2.out D A n c (il zs) (by rfl) R2.out Xq.out (by simp only[maxLen];omega) (by omega) (by simp;omega) ?_;intro v' w1 hown hg hat;obtain ⟨k,cap,hv,ho,hc⟩:=vN N2.out (Nat.le_refl _) hown hg hat;clear hown hg hat;rw[hv];clear hv)
   |(refine RQ _ (by rfl) (.tmp 17) (.tmp 18) _ (by rfl) W.heap.size 3 i0 _ 1 8 Tryz.underlying88 hi0 hz0 hz1 hz2 (by rfl) (by omega) (.slice (some ⟨W.heap.size+1,0,none⟩) 0 0) 0 [] (by rfl) H3.out D A n c (il zs) (by rfl) R3.out Xq.out (by simp only[maxLen];omega) (by omega) (by simp;omega) ?_;intro v' w1 hown hg hat;obtain ⟨k,cap,hv,ho,hc⟩:=vN N3.out (by omega) hown hg hat;clear hown hg hat;rw[hv];clear hv))
  all_goals (go_wp2_with fail;go_meet)
  ·have:=Dn FD.out (ho.alloc _) (Zl n ho.nx (by simp only[maxLen];omega))
   simp only[World.size_alloc]at this;exact ⟨_,k,cap,_,rfl,this⟩
  ·have hw:=Zl (W:=W) (w:=W.alloc (.cells #[] 3)) n ((Ch.refl _ W).alloc _) (by simp only[maxLen];omega)
   simp only[World.size_alloc]at hw;have hw2:=(hw.tr ((Ch.refl _ _).drew)).ch hc (fun j hj e=>by simp[Value.ownBlock]at hj;omega) (fun i hi e=>by omega);exact ⟨_,k,cap,_,rfl,Dn FD.out ho hw2⟩
  ·have hw:=Zl (W:=W) (w:=W) n (Ch.refl _ W) (by simp only[maxLen];omega)
   have hw2:=((hw.alloc (.cells #[] 3)).tr ((Ch.refl _ _).drew)).ch hc (fun j hj e=>by simp[Value.ownBlock]at hj;omega) (fun i hi e=>by omega);exact ⟨_,k,cap,_,rfl,Dn FD.out ho hw2⟩
 case rest=>
  obtain ⟨t,k,cap,wv,rfl,hm⟩:=hcut;clear H1 H2 H3 R1 R2 R3 N1 N2 N3;go_wp2_with fail;go_loopw [27] (fun i wr=>∃j:Nat,j<=n/\i=.int .i64 j/\Hid (∀s,s<j->0<=zs.getD s 0/\zs.getD s 0<=15)/\Mk W wr t zs (List.replicate n 0) (fun m=>(rank zs m j:Int)) [] (.slice (some ⟨k,0,none⟩) n cap) wv (.slice none 0 0)) (fun i _=>n-(intOf i).toNat)
  case atStart=>exact ⟨0,by omega,rfl,ah (fun s h=>by omega),hm.Eb (fun i _=>by simp[rank])⟩
  case round=>
   clear hm;obtain ⟨j,hj,rfl,Jg,m⟩:=hrel;by_cases hlt:j<n
   ·obtain ⟨ad,u,rfl,kN,hu,hc⟩:=(hr.nx (by omega) m.len.nx).at_ hlt
    have hjz:j<zs.length:=by rw[FD.out];exact hlt
    have hu2:u=.int .i64 zs[j]:=by simp[il,List.getElem?_eq_getElem hjz]at hu;exact hu.symm
    subst hu2;have hg:zs.getD j 0=zs[j]:=(by simp[List.getD,hjz]);have hrs:=fun i=>Oj zs i j hjz;have herr:=fun h=>Ia (zs:=zs) (by rw[FD.out];omega) hjz h;generalize zs[j]=z at *;have Qs:=ah hrs;have Hg:=ah hg;have Xr:=ah herr;clear hrs hg herr hu;by_cases hbad:z<0∨15<z
    ·have hnx:=m.len.nx
     by_cases hz0':z<0
     all_goals
      go_wp2_with fail;go_ret2;refine .inr ⟨by rw[Xr.out hbad];decide,by rw[Xr.out hbad];rfl,hnx⟩
    ·obtain ⟨q,rfl⟩:=Int.eq_ofNat_of_zero_le (show 0<=z by omega)
     have hq:q<16:=(by omega);have hz0':¬((q:Int)<0):=(by omega);have hz1':¬(15<(q:Int)):=(by omega);have hcell:wr.cell? ⟨t,2+q,none⟩=some (.int .i64 (rank zs q j:Int)):=(m.blk.cell _).trans (Ve _ _ _ _ q hq);have hfr:=m.blk.frozen (2+q);have hrk:=uY zs q j;have hcn:=cnt_le zs q;have hrk2:rank zs q j<=320:=by have:=FD.out;omega
     clear hrk hcn;have M:=ah m;clear m;go_wp2_with fail;go_region
     go_wp2_with fail;go_roundw
     case rel=>
      refine ⟨j+1,by omega,by go_num,ah (fun s h=>?_),?_⟩
      ·by_cases hs:s=j
       ·subst hs;rw[Hg.out];omega
       ·exact Jg.out s (by omega)
      ·have:=(M.out.count q hq ((rank zs q j:Int)+1)).Eb (Oy:=fun i=>(rank zs i (j+1):Int)) (fun i hi=>by
        rw[Qs.out i];by_cases e:i=q
        ·subst e;simp
        ·rw[if_neg e,if_neg (by omega)];simp)
       exact this.tr ((Ch.refl _ _).drew)
     case measure=>simp[intOf];omega
   ·obtain rfl:j=n:=by omega
    have c2:wr.cell? ⟨t,2,none⟩=some (.int .i64 (rank zs 0 j:Int)):=(m.blk.cell _).trans (Ve _ _ _ _ 0 (by omega));have f2:=m.blk.frozen 2
    have m0:=(m.count 0 (by omega) 0).Eb (Oy:=Ox zs) (fun i _=>by
     have h1:=z34 zs i;rw[FD.out]at h1;unfold Ox;rw[h1])
    have M0:=ah m0;have hzl:=FD.out;clear m m0 hlt hj;subst hzl;go_wp2_with fail;have m:=M0.out;simp only[Nat.add_zero]at m;clear M0 c2 f2;generalize wr.setCell ⟨t,2,none⟩ (.int .i64 0)=w2 at *;go_loop [7,8,9] (fun r al q=>∃i:Nat,1<=i/\i<=16/\q=.int .i64 i/\r=.int .i64 (32768-(iy zs (i-1):Int))/\al=.int .i64 (bZ zs (i-1):Int)) (fun _ _ q=>16-(intOf q).toNat)
    case atStart=>exact ⟨1,by omega,by omega,rfl,by simp[iy],by simp[bZ]⟩
    case round=>
     obtain ⟨i,hi1,hi2,rfl,rfl,rfl⟩:=hrel;by_cases h15:i<=15
     ·have hcell:w2.cell? ⟨t,2+i,none⟩=some (.int .i64 (cnt zs i:Int)):=by
       have:=(m.blk.cell _).trans (Ve _ _ _ _ i (by omega));rw[this];simp only[Ox,if_neg (show ¬i=0 by omega)]
      have b0:(0:Int)<=15-(i:Int):=(by omega);have b1:=ER zs (i-1) (by omega) hn;have b2:=XI zs (i-1) (by omega) hn;have b3:=cnt_le zs i;have b4:=rH zs (i-1) hn
      have e1:iy zs i=iy zs (i-1)+cnt zs i * 2 ^ (15-i):=by
       obtain ⟨j',rfl⟩:∃j',i=j'+1:=⟨i-1,by omega⟩;simp only[iy,Nat.add_sub_cancel];rw[show 15-(j'+1)=14-j' by omega]
      have e2:bZ zs i=bZ zs (i-1)+cnt zs i:=by
       obtain ⟨j',rfl⟩:∃j',i=j'+1:=⟨i-1,by omega⟩;rfl
      rw[show i-1+1=i by omega,show 14-(i-1)=15-i by omega]at b4;have E1:=ah e1;have E2:=ah e2;clear e1 e2;go_wp2_with fail;go_round
      case rel=>
       refine ⟨i+1,by omega,by omega,by go_num,?_,?_⟩
       ·have e3:((cnt zs i:Int) * 2 ^ (15-i))=((cnt zs i * 2 ^ (15-i):Nat):Int):=by simp
        rw[e3,Nat.add_sub_cancel,E1.out];generalize cnt zs i * 2 ^ (15-i)=x at *;rw[IntWalk.wrap64_in (x:Int) ⟨by omega,by omega⟩,IntWalk.wrap64_in _ ⟨by omega,by omega⟩];congr 1
        omega
       ·rw[Nat.add_sub_cancel,E2.out]
        first
         |(rw[IntWalk.wrap64_in _ ⟨by omega,by omega⟩];congr 1)
         |(congr 1)
      case measure=>simp[intOf];omega
     ·obtain rfl:i=16:=by omega
      have b1:=ER zs 15 (by omega) hn;have b2:=XI zs 15 (by omega) hn;have e1:=ES zs 15 (by omega);simp only[Nat.sub_self,Nat.pow_zero,Nat.mul_one]at e1;have hc1:w2.cell? ⟨t,3,none⟩=some (.int .i64 (cnt zs 1:Int)):=(m.blk.cell _).trans (Ve _ _ _ _ 1 (by omega));have Rn:=Jg
      have Jg:=ah (yX hn (fun z hz=>by
       obtain ⟨s,hs,rfl⟩:=List.getElem_of_mem hz;have:=Jg.out s hs;simpa [List.getD,hs]using this))
      rw[e1]at b1;simp only[show 16-1=15 from rfl,e1];clear e1;generalize hE:bQ zs 15=E at *;generalize hA:bZ zs 15=AA at *;have HE:=ah hE;have HA:=ah hA;clear hE hA;clear b1;generalize hR:32768-(E:Int)=R at *;have HR:=ah hR;clear hR;by_cases hk:32768<E∨(E<32768/\0<AA/\¬(AA=1/\cnt zs 1=1))
      ·have hnx:=m.len.nx
       have he:=Jg.out;rw[if_pos hk]at he;have He:=ah he;have hk':=ah hk;clear he hk;by_cases hk1:R<0
       ·go_wp2_with fail
        go_ret2;exact .inr ⟨by rw[He.out];decide,by rw[He.out];rfl,hnx⟩
       ·have hk3:(0:Int)<R:=by have:=HR.out;have:=hk'.out;omega
        have hk4:(0:Int)<(AA:Int):=by have:=HR.out;have:=hk'.out;omega
        by_cases hk5:AA=1
        ·have hk7:((cnt zs 1:Int)==1)=false:=by rw[beq_eq_false_iff_ne];have:=HR.out;have:=hk'.out;omega
         subst hk5;go_wp2_with fail;go_ret2;exact .inr ⟨by rw[He.out];decide,by rw[He.out];rfl,hnx⟩
        ·have hk6:((AA:Int)==1)=false:=by rw[beq_eq_false_iff_ne];omega
         go_wp2_with fail;go_ret2;exact .inr ⟨by rw[He.out];decide,by rw[He.out];rfl,hnx⟩
      ·have he:=Jg.out
       rw[if_neg hk]at he;have He:=ah he;have hk':=ah hk;clear he hk;have QV:bQ zs 15<=32768:=by rw[HE.out];have:=hk'.out;omega
       have TK:=ah (fun j hj=>UW QV j hj);have hst:=Bc (zs:=zs) (fun i hi=>(Rn.out i hi).1);have hen:=JI (zs:=zs) Rn.out;have HST:=ah hst;have Rt:=ah hen;clear QV hst hen;have hkA:¬R<0:=by have:=HR.out;have:=hk'.out;omega
       have VE:R=0∨(0<R/\AA=0)∨(0<R/\AA=1/\cnt zs 1=1):=by have:=HR.out;have:=hk'.out;omega
       rcases VE with rfl|⟨h32,rfl⟩|⟨h32,rfl,hcc⟩
       rotate_right
       have hk7:w2.cell? ⟨t,3,none⟩=some (.int .i64 1):=by rw[hc1,hcc];rfl
       clear hc1 hcc;rotate_left
       all_goals
        go_wp2_with fail;have m1:Mk W w2 t zs (gY zs 1 0) (Ox zs) (gQ zs 0) (.slice (some ⟨k,0,none⟩) zs.length cap) wv (.slice none 0 0):=by rw[HST.out];exact m
        go_loopw [10,11] (fun x q wr=>∃(i:Nat) (sv:Value),1<=i/\i<=16/\q=.int .i64 i/\x=.int .u32 (bQ zs (i-1):Int)/\Mk W wr t zs (gY zs i 0) (Ox zs) (gQ zs (i-1)) (.slice (some ⟨k,0,none⟩) zs.length cap) wv sv/\Hid (∀b,sv.ownBlock=some b->(Value.slice (some ⟨k,0,none⟩) zs.length cap).ownBlock≠some b)) (fun _ q _=>16-(intOf q).toNat)
        case atStart=>exact ⟨1,_,by omega,by omega,rfl,rfl,m1,ah (fun b hb=>by simp[Value.ownBlock]at hb)⟩
        case round=>
         clear m1 m;obtain ⟨i,sv,hi1,hi2,rfl,rfl,m,hap⟩:=hrel;obtain ⟨wo,rfl⟩:∃wo:World,wo=wr:=⟨_,rfl⟩;by_cases h15:i<=15
         ·have hX:bQ zs (i-1)<=16384:=by
           have h1:=TK.out (i-1) (by omega);have h2:(2:Nat) ^ (i-1)<=2 ^ 14:=Nat.pow_le_pow_right (by omega) (by omega);omega
          have hJ:2 * bQ zs (i-1)+cnt zs i<=32768:=by
           have h1:=TK.out i (by omega);have h2:(2:Nat) ^ i<=2 ^ 15:=Nat.pow_le_pow_right (by omega) (by omega);obtain ⟨j',rfl⟩:∃j',i=j'+1:=⟨i-1,by omega⟩;have e:bQ zs (j'+1)=2 * bQ zs j'+cnt zs (j'+1):=rfl;rw[Nat.add_sub_cancel];omega
          have hen:bQ zs i=2 * bQ zs (i-1)+cnt zs i:=by
           obtain ⟨j',rfl⟩:∃j',i=j'+1:=⟨i-1,by omega⟩;rfl
          have hso:gQ zs i=gQ zs (i-1)++xA zs i zs.length:=by
           obtain ⟨j',rfl⟩:∃j',i=j'+1:=⟨i-1,by omega⟩;rfl
          have hset:=fun s hs h=>JH (zs:=zs) i s hs h (by omega);generalize bQ zs (i-1)=X at *;have HJ:=ah hJ;have HN:=ah hen;have HO:=ah hso;have Jb:=ah hset;clear hJ hen hso hset;go_wp2_with fail;go_loopw [10,106] (fun x q wr=>∃(s:Nat) (sv:Value),s<=zs.length/\q=.int .i64 s/\x=.int .u32 ((2 * X+rank zs i s:Nat):Int)/\Mk W wr t zs (gY zs i s) (Ox zs) (gQ zs (i-1)++xA zs i s) (.slice (some ⟨k,0,none⟩) zs.length cap) wv sv/\Hid (∀b,sv.ownBlock=some b->(Value.slice (some ⟨k,0,none⟩) zs.length cap).ownBlock≠some b)) (fun _ q _=>zs.length-(intOf q).toNat)
          case atStart=>exact ⟨0,sv,by omega,rfl,by simp[rank];omega,by simpa [xA]using m,hap⟩
          case round=>
           clear m hap;obtain ⟨s,sv,hs,rfl,rfl,m,hap⟩:=hrel;by_cases hlt2:s<zs.length
           ·obtain ⟨ad,u,rfl,kN,hu,hc⟩:=(hr.nx (by omega) m.len.nx).at_ hlt2
            have hu2:u=.int .i64 zs[s]:=by simp[il,List.getElem?_eq_getElem hlt2]at hu;exact hu.symm
            subst hu2;have hrs:=Oj zs i s hlt2;have hss:=ZA zs i s hlt2;have hsk:=FV (zs:=zs) i s hlt2;have hst2:=Jb.out s hlt2;have hrl:=uY zs i s;have hrl2:2 * X+rank zs i s<=32768:=by have:=HJ.out;omega
            have hrl3:gQ zs (i-1)++xA zs i s=gQ zs (i-1)++xA zs i s:=rfl
            have hsl:(gQ zs (i-1)++xA zs i s).length<=6000:=by
             rw[List.length_append,Yy,Yz zs i s hs];have:=XI zs (i-1) (by omega) hn;have:=cnt_le zs i;omega
            generalize zs[s]=z at *;have Qs:=ah hrs;have Hss:=ah hss;have UL:=ah hsk;have iR:=ah hst2;clear hrs hss hsk hst2 hu hrl hrl3;generalize rank zs i s=rk at *;generalize hSS:gQ zs (i-1)++xA zs i s=SS at *;have HSS:=ah hSS;clear hSS;by_cases hz:z=(i:Int)
            ·subst hz
             obtain ⟨kw,cw,rfl,_,_⟩:=m.ug.own.form (by rw[Yo];omega);have d1:wr.cell? ⟨t,1,none⟩=some (.slice (some ⟨kw,0,none⟩) (gY zs i s).length cw):=m.blk.cell 1;have d18:wr.cell? ⟨t,18,none⟩=some sv:=m.blk.cell 18;have hkt:kw≠t:=Oq m.ug.own m.blk (by decide) kw rfl;have hkt':t≠kw:=Ne.symm hkt
             obtain ⟨uw,huw⟩:∃uw,wr.cell? ⟨kw,s,none⟩=some uw:=by
              have hl:s<(wl (gY zs i s)).length:=by simp[wl,Yo];omega
              exact ⟨_,(m.ug.own.cellAt s (by rw[Yo];omega)).trans (List.getElem?_eq_getElem hl)⟩
             have fw:=m.ug.own.frozenAt s;have m2:=m.setW s (2 * X+rk);rw[show ((2 * X+rk:Nat):Int)=2 * (X:Int)+(rk:Int) by simp]at m2;have M2:=ah m2;clear m2;have hr2:2 * (X:Int)+(rk:Int)<=32768:=(by omega);have hwl:=Yo zs i s;rw[hwl]at d1;have WL:=ah hwl;clear m hwl;go_wp2_with (at_builtin;refine uj wr.heap.size (by simp) rfl (.tmp 127) (.tmp 129) _ rfl 3 i0 _ 8 Tryz.underlying88 hi0 hz0 hz1 hz2 rfl _ rfl rfl M2.out.srt rfl (by simp only[maxLen];omega) (by omega) ?_;intro sv' w3 ho3 hmv;have b3:=M2.out.blk.ch hmv.ch (fun e=>Oq M2.out.srt.own M2.out.blk (by decide) t e rfl);have d3:w3.cell? ⟨t,18,none⟩=some sv:=b3.cell 18;have f3:=b3.frozen 18;clear b3;obtain ⟨A3,c3,hsv,_,_⟩:=ho3.form;rw[hsv]at ho3 hmv ⊢;clear hsv)
             have hfin:=M2.out.addS hap.out ho3 hmv;clear hmv ho3;go_roundw
             case rel=>
              refine ⟨_,_,_,_,⟨s+1,by omega,?_,?_,_,?_,ah hfin.2⟩,rfl,rfl,rfl,rfl⟩
              ·go_num
              ·have h:=Qs.out
               simp only[if_true]at h;rw[h];go_num
              have h2:=Hss.out;simp only[if_true]at h2;rw[iR.out trivial,h2,←List.append_assoc,HSS.out];have h1:=hfin.1;exact h1
             case measure=>simp[intOf];omega
            ·have hz':(z==(i:Int))=false:=by rw[beq_eq_false_iff_ne];exact hz
             go_wp2_with fail;go_roundw
             case rel=>
              refine ⟨s+1,sv,by omega,by go_num,by rw[Qs.out,if_neg hz];go_num,?_,hap⟩;rw[UL.out hz,Hss.out,if_neg hz,List.append_nil,HSS.out];exact m
             case measure=>simp[intOf];omega
           ·obtain rfl:s=zs.length:=by omega
            go_wp2_with fail;go_roundw
            case rel=>
             refine ⟨i+1,sv,by omega,by omega,by go_num,?_,?_,hap⟩
             ·rw[Nat.add_sub_cancel,HN.out,z34]
             ·rw[Nat.add_sub_cancel,HO.out,FW i (by omega)]
              exact m
            case measure=>simp[intOf];omega
         ·obtain rfl:i=16:=by omega
          go_wp2_with fail;go_ret2;exact .inl ⟨He.out,t,_,wv,sv,rfl,by rw[←Rt.out];exact m⟩
end Go.Proofs.YtfljcllpmbnjaaaGreat
