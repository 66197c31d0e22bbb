/-
  The texts that the law's proof needs, part 4.
-/
import Derived.Test.YtkbboemafklkkaaGreatDoorPrefixCutP3

namespace Go.Proofs.YtkbboemafklkkaaGreatDoor.V
open Go
set_option linter.unusedVariables false
set_option maxRecDepth 100000
set_option maxHeartbeats 2000000
set_option synthInstance.maxSize 100000
set_option synthInstance.maxHeartbeats 200000
theorem zgk {l_:(List Smade_scantling_prefix_thing_search)} {i_:Int} {r_:(List Int)} (h:zt l_ i_ r_):Fn Tryz.prog 84 [(Pd.rep (En.slice En.Smade_scantling_prefix_thing_search) l_),(Pi i_)] (Ro (En.int .u8) 5 r_):=by
 unfold zt at h;refine zbp Tryz.func84 J Tryz.ntmps84 (by rfl) (by simp) fun s0 a L=>?_;refine rs (sno (En.int .u8) 5 L fun a s L=>?_);refine es (rs ?_);refine sno (En.int .u8) 5 L fun a s L=>?_;refine es (wp_seq_k fun K1 H1=>?_);refine wp_block ?_;have J4:∀(out2:(List Int)) (og3:Option Nat) (a:Act) (s:St),Has N0 28 s0 a s [(5,(Pd.row (En.int .u8) s0.w.heap.size 5 og3 out2))]→((zt.j1 r_) out2)→K1 a s.w:=by
  intro out2 og3 a s L h;unfold zt.j1 at h;show K1 a s.w;refine H1 _ _ ?_;obtain ⟨r5,h6,h⟩:=h;refine rs (sA 1 L fun a s L=>?_);refine zj4 26 (fun v0=>zgh v0 h6) L op opz J J J J kw fun a s L=>?_;refine es (rA 2 L fun a s L=>?_);subst h;exact wp_ret (zf2 J L J)
 obtain ⟨k10,h⟩:=h;refine lpn (fun k11 a s=>∃(i7:Int) (out8:(List Int)) (og9:Option Nat),Has N0 28 s0 a s [(0,(Pd.rep (En.slice En.Smade_scantling_prefix_thing_search) l_)),(1,(Pi i7)),(5,(Pd.row (En.int .u8) s0.w.heap.size 5 og9 out8))]∧zt.l1 l_ (zt.j1 r_) k11 i7 out8) k10 ⟨i_,([]:(List Int)),none,L.kk,h⟩ ?_;rintro k11 a s ⟨i7,out8,og9,L,h⟩ KL12 hKL12;unfold zt.l1 at h;refine wp_seq_k fun K13 H13=>?_;obtain ⟨e14,h15,h⟩:=h;refine ra 6 (p1 h15) L fun a s L=>?_;refine cn L h (fun h=>?_) fun h=>?_
 ·refine wp_skip (H13 _ _ ?_);refine wp_seq_k fun K16 H16=>wp_block ?_;obtain ⟨e17,h18,h19,h⟩:=h;refine rg (sl 7 (p1 h18) L fun a s L=>?_);refine zc9 24 L op op Ud.h Tq.h h19 J J J J ka fun a s og20 hg_ L=>?_;refine sA 1 L fun a s L=>?_;refine en' (H16 _ _ ?_);obtain ⟨e21,h22,h⟩:=h;refine rg (sl 6 (p1 h22) L fun a s L=>?_);refine en' ?_;exact hKL12 a s ⟨e21.2.1,(out8++[e17.2.2]),og20,L.kk,h⟩
 ·refine wp_exit ?_;exact J4 out8 og9 a s (L.kk) h
theorem ze5 {s_:SSpace_scantling_prefix_thing_search} {budget_:Int} {r_:SFound_scantling_prefix_thing_search} (h:ze s_ budget_ r_):Fn Tryz.prog 56 [(Pd.rep En.SSpace_scantling_prefix_thing_search s_),(Pi budget_)] (Rq (Pd.rep En.SFound_scantling_prefix_thing_search r_)):=by
 unfold ze at h;refine zbp Tryz.func56 J Tryz.ntmps56 (by rfl) (by simp) fun s0 a L=>?_;refine rs (sA 1 L fun a s L=>?_);refine zbb En.SFound_scantling_prefix_thing_search (z:=((0,[],[],0,0,0,0),([],false))) 4 L tyz90 J J J J fun a s g1 hg_ L=>?_;refine es (rs ?_);refine sA 2 L fun a s L=>?_;refine sv (zcc (x:=(s_.1,(-1),0)) (ps:=[(0,.tmp 13),(1,.const (.int .i64 (-1))),(2,.const (.int .u8 0))]) tyz149 J stt149 (.cons (i:=0) op J (zba (zo _ _ _)) (.cons (i:=1) op J (zn (zba (zo _ _ _)) J) (.cons (i:=2) op J (zn (zn (zo _ _ _) J) J) .nil))) J J) L fun a s L=>?_;have lt_d3:=L.blt 4 rfl;refine zfh (xs:=[.tmp 14]) 15 L (.cons op .nil) Ud.h Tq.h J J (by decide) J J J J fun a s g2 hg_ L=>?_;have d3:=Dis.newg hg_ lt_d3;refine sA 1 L fun a s L=>?_;refine es ?_;obtain ⟨r7,h8,h⟩:=h;refine rs ?_;have lt_d6:=L.rlt 15 rfl;have lt_d5:=L.blt 4 rfl;refine zi1 16 En.str kvStr En.bool L J J J J fun a s g4 hg_ L=>?_;have d5:=Dis.newg hg_ lt_d5;have d6:=Dis.newg hg_ lt_d6;refine sA 4 L fun a s L=>?_;refine sv (zf1 (q:=(s_.1,r7)) op h8 opz (fun _ _ _ h_=>h_) J J) L fun a s L=>?_;refine zgu L op op o_b Ud.h (zd7 Ud.h) (.inr J) J J kw fun s L=>?_;refine sA 2 L fun a s L=>?_;refine es (wp_seq_k fun K9 H9=>?_);refine rA 1 L fun a s L=>?_;refine wp_block ?_;have J13:∀(v10:SFound_scantling_prefix_thing_search) (list11:(List Smade_scantling_prefix_thing_search)) (og12:Option Nat) (a:Act) (s:St),Has N0 87 s0 a s [(4,(Pd.box En.SFound_scantling_prefix_thing_search s0.w.heap.size g1 v10)),(5,(Pd.row En.Smade_scantling_prefix_thing_search s0.w.heap.size 149 og12 list11))]→Dis (some g1) og12→((ze.j1 r_) v10 list11)→K9 a s.w:=by
  intro v10 list11 og12 a s L d14 h;unfold ze.j1 at h;show K9 a s.w;refine H9 _ _ (rs ?_);refine sA 2 L fun a s L=>?_;refine sv (zcc (x:=(1,[],[],0,0,0,(list11.length:Int))) (ps:=[(0,.const (.int .i64 1)),(6,.tmp 84)]) tyz31 J stt31 (.cons (i:=0) op J (zba (zo _ _ _)) (.cons (i:=6) op J (zn (zn (zn (zn (zn (zn (zo _ _ _) J) J) J) J) J) J) .nil)) J J) L fun a s L=>?_;refine sv (zcc (x:=((1,[],[],0,0,0,(list11.length:Int)),([],false))) (ps:=[(0,.tmp 85)]) tyz90 J stt90 (.cons (i:=0) op J (zba (zo _ _ _)) .nil) J J) L fun a s L=>?_;refine sB 4 L fun s L=>?_;refine es ?_;subst h;exact wp_ret (retb J ty90 L J)
 obtain ⟨k21,h⟩:=h;refine lpn (fun k22 a s=>∃(v15:SFound_scantling_prefix_thing_search) (list16:(List Smade_scantling_prefix_thing_search)) (seen18:(List (Str × Bool))) (i20:Int) (og17:Option Nat) (og19:Option Nat),Has N0 87 s0 a s [(1,(Pi budget_)),(2,(Pd.ptr En.SSpace_scantling_prefix_thing_search s_)),(4,(Pd.box En.SFound_scantling_prefix_thing_search s0.w.heap.size g1 v15)),(5,(Pd.row En.Smade_scantling_prefix_thing_search s0.w.heap.size 149 og17 list16)),(6,(Pd.map En.str kvStr En.bool s0.w.heap.size og19 seen18)),(7,(Pi i20))]∧Dis (some g1) og17∧Dis (some g1) og19∧Dis og17 og19∧ze.l1 s_ budget_ r_ (ze.j1 r_) k22 v15 list16 seen18 i20) k21 ⟨((0,[],[],0,0,0,0),([],false)),[(s_.1,(-1),0)],(zfu ([]:(List (Str × Bool))) r7 true),0,(some g2),(some g4),L.kk,(Dis.symm d3),(Dis.symm d5),(Dis.symm d6),h⟩ ?_;rintro k22 a s ⟨v15,list16,seen18,i20,og17,og19,L,d24,d25,d26,h⟩ KL23 hKL23;unfold ze.l1 at h;refine wp_seq_k fun K27 H27=>rA 4 L fun a s L=>?_;refine cn L h (fun h=>?_) fun h=>?_
 ·refine wp_skip (H27 _ _ ?_);refine wp_seq_k fun K28 H28=>wp_block (wp_seq_k fun K29 H29=>?_);refine rA 3 L fun a s L=>?_;refine cn L h (fun h=>?_) fun h=>?_
  ·refine rs ?_;refine sA 2 L fun a s L=>?_;refine sv (zcc (x:=(3,[],[],0,0,0,(max budget_ 0))) (ps:=[(0,.const (.int .i64 3)),(6,.tmp 33)]) tyz31 J stt31 (.cons (i:=0) op J (zba (zo _ _ _)) (.cons (i:=6) op J (zn (zn (zn (zn (zn (zn (zo _ _ _) J) J) J) J) J) J) .nil)) J J) L fun a s L=>?_;refine sv (zcc (x:=((3,[],[],0,0,0,(max budget_ 0)),([],false))) (ps:=[(0,.tmp 34)]) tyz90 J stt90 (.cons (i:=0) op J (zba (zo _ _ _)) .nil) J J) L fun a s L=>?_;refine sB 4 L fun s L=>?_;refine es ?_;subst h;exact wp_ret (retb J ty90 L J)
  ·refine wp_skip (H29 _ _ ?_);obtain ⟨e30,h31,h⟩:=h;refine rs (sl 5 (p1 h31) L fun a s L=>?_);have lt_d35:=L.mlt 6 rfl;have lt_d34:=L.rlt 5 rfl;have lt_d33:=L.blt 4 rfl;refine zbb En.Sthing_prefix (z:=([],false)) 8 L tyz80 J J J J fun a s g32 hg_ L=>?_;have d33:=Dis.newg hg_ lt_d33;have d34:=Dis.newg hg_ lt_d34;have d35:=Dis.newg hg_ lt_d35;refine sB 8 L fun s L=>?_;refine es (wp_seq_k fun K36 H36=>?_);obtain ⟨r37,h38,h⟩:=h;refine rs (sA 3 L fun a s L=>?_);refine sv (zf1 (q:=(e30.1,r37)) op h38 opz (fun _ _ _ h_=>h_) J J) L fun a s L=>?_;refine es (cn L h (fun h=>?_) fun h=>?_)
   ·refine fzc 5 L fun s L=>?_;obtain ⟨r39,h40,h41,h⟩:=h;refine wp_seq (rda zdl 8 [(Pd.rep (En.slice En.Smade_scantling_prefix_thing_search) list16),(Pi i20),(Pd.rep (En.slice (En.int .u8)) r39),(Pi i20),(Pi (i20+1)),(Pd.rep En.SVerdict (2,r39,[],0,0,0,i20+1)),(Pd.rep En.Sthing_prefix e30.1),(Pd.rep En.SFound_scantling_prefix_thing_search ((2,r39,[],0,0,0,i20+1),e30.1))] L (by kernel_rfl) J J ?_ ?_)
    ·refine zbj.cons (zp (O 5 J) J J) ?_;refine zbj.cons (zp (O 7 J) J J) ?_;refine zbj.cons (zgs ((zgk h40).frz) (xs:=[.tmp 45,.tmp 46]) (.cons (O 45 J) (.cons (O 46 J) .nil)) J J) ?_;refine zbj.cons (zp (O 7 J) J J) ?_;refine zbj.cons (t_add (O 48 J) oI h41 J J) ?_;refine zbj.cons (zcc (x:=(2,r39,[],0,0,0,i20+1)) (ps:=[(0,.const (.int .i64 2)),(1,.tmp 47),(6,.tmp 49)]) tyz31 J stt31 (.cons (i:=0) oI J (zba (zo _ _ _)) (.cons (i:=1) (O 47 J) J (zn (zba (zo _ _ _)) J) (.cons (i:=6) (O 49 J) J (zn (zn (zn (zn (zn (zn (zo _ _ _) J) J) J) J) J) J) .nil))) J J) ?_;refine zbj.cons (zpy ty80 (O 8 J) J J) ?_;refine zbj.cons (zcc (x:=((2,r39,[],0,0,0,i20+1),e30.1)) (ps:=[(0,.tmp 50),(1,.tmp 51)]) tyz90 J stt90 (.cons (i:=0) (O 50 J) J (zba (zo _ _ _)) (.cons (i:=1) (O 51 J) J (zn (zo _ _ _) J) .nil)) J J) ?_;exact zbj.nil
    intro a s _ L;replace L:=L.kk (L':=[(4,(Pd.box En.SFound_scantling_prefix_thing_search s0.w.heap.size g1 v15)),(52,(Pd.rep En.SFound_scantling_prefix_thing_search ((2,r39,[],0,0,0,i20+1),e30.1)))]);refine dp ?_;refine sB 4 L fun s L=>?_;refine es ?_;subst h;exact wp_ret (retb J ty90 L J)
   ·refine wp_skip (H36 _ _ ?_);obtain ⟨r42,h43,h⟩:=h;refine rs (sA 3 L fun a s L=>?_);refine sv (zf1 (q:=(e30.1,r42)) op h43 opz (fun _ _ _ h_=>h_) J J) L fun a s L=>?_;refine sA 2 L fun a s L=>?_;refine es (wp_block ?_);have J48:∀(list44:(List Smade_scantling_prefix_thing_search)) (seen46:(List (Str × Bool))) (og45:Option Nat) (og47:Option Nat) (a:Act) (s:St),Has N0 87 s0 a s [(1,(Pi budget_)),(2,(Pd.ptr En.SSpace_scantling_prefix_thing_search s_)),(4,(Pd.box En.SFound_scantling_prefix_thing_search s0.w.heap.size g1 v15)),(5,(Pd.row En.Smade_scantling_prefix_thing_search s0.w.heap.size 149 og45 list44)),(6,(Pd.map En.str kvStr En.bool s0.w.heap.size og47 seen46)),(7,(Pi i20))]→Dis (some g1) og45→Dis (some g1) og47→Dis og45 og47→((ze.j2 (ze.l1 s_ budget_ r_ (ze.j1 r_) k22) v15 i20) list44 seen46)→K28 a s.w:=by
     intro list44 seen46 og45 og47 a s L d49 d50 d51 h;unfold ze.j2 at h;show K28 a s.w;refine H28 _ _ ?_;obtain ⟨h52,h⟩:=h;refine rg (sA 3 L fun a s L=>?_);refine en' ?_;exact hKL23 a s ⟨v15,list44,seen46,(i20+1),og45,og47,L.kk,d49,d50,d51,h⟩
    obtain ⟨k58,h⟩:=h;refine lpn (fun k59 a s=>∃(list53:(List Smade_scantling_prefix_thing_search)) (seen55:(List (Str × Bool))) (v57:Int) (og54:Option Nat) (og56:Option Nat),Has N0 87 s0 a s [(1,(Pi budget_)),(2,(Pd.ptr En.SSpace_scantling_prefix_thing_search s_)),(4,(Pd.box En.SFound_scantling_prefix_thing_search s0.w.heap.size g1 v15)),(5,(Pd.row En.Smade_scantling_prefix_thing_search s0.w.heap.size 149 og54 list53)),(6,(Pd.map En.str kvStr En.bool s0.w.heap.size og56 seen55)),(7,(Pi i20)),(56,(Pd.rep (En.slice En.SOn_scantling_prefix_thing_search) r42)),(57,(Pi (r42.length:Int))),(58,(Pi v57))]∧Dis (some g1) og54∧Dis (some g1) og56∧Dis og54 og56∧ze.l2 s_ i20 r42 (ze.j2 (ze.l1 s_ budget_ r_ (ze.j1 r_) k22) v15 i20) k59 list53 seen55 v57) k58 ⟨list16,seen18,0,og17,og19,L.kk,d24,d25,d26,h⟩ ?_;rintro k59 a s ⟨list53,seen55,v57,og54,og56,L,d61,d62,d63,h⟩ KL60 hKL60;unfold ze.l2 at h;refine rA 1 L fun a s L=>?_;refine wp_seq_k fun K64 H64=>cn L h (fun h=>?_) fun h=>?_
    ·refine wp_skip (H64 _ _ ?_);refine wp_seq_k fun K65 H65=>wp_block ?_;obtain ⟨e66,h67,h⟩:=h;refine rs (sl 2 (p1 h67) L fun a s L=>?_);have lt_d71:=L.mlt 6 rfl;have lt_d70:=L.rlt 5 rfl;have lt_d69:=L.blt 4 rfl;refine zbb En.SOn_scantling_prefix_thing_search (z:=(0,([],false))) 10 L tyz86 J J J J fun a s g68 hg_ L=>?_;have d69:=Dis.newg hg_ lt_d69;have d70:=Dis.newg hg_ lt_d70;have d71:=Dis.newg hg_ lt_d71;refine sB 10 L fun s L=>?_;refine es ?_;obtain ⟨r72,h73,h⟩:=h;refine rs (sA 4 L fun a s L=>?_);refine sv (zf1 (q:=(e66.2,r72)) op h73 opz (fun _ _ _ h_=>h_) J J) L fun a s L=>?_;refine sA 1 L fun a s L=>?_;refine es (rs ?_);refine sA 2 L fun a s L=>?_;refine sv (zo4 op op Ud.h (zd7 Ud.h) tyv4 J J) L fun a s L=>?_;refine sA 1 L fun a s L=>?_;refine es (cn L h (fun h=>?_) fun h=>?_)
     ·refine rs ?_;refine sA 2 L fun a s L=>?_;refine zgu L op op o_b Ud.h (zd7 Ud.h) (.inl J) J J kw fun s L=>?_;refine es ?_;obtain ⟨h74,h⟩:=h;refine rg (sA 6 L fun a s L=>?_);refine sv (zcc (x:=(e66.2,i20,e66.1)) (ps:=[(0,.tmp 75),(1,.tmp 76),(2,.tmp 78)]) tyz149 J stt149 (.cons (i:=0) op J (zba (zo _ _ _)) (.cons (i:=1) op J (zn (zba (zo _ _ _)) J) (.cons (i:=2) op J (zn (zn (zo _ _ _) J) J) .nil))) J J) L fun a s L=>?_;refine sA 1 L fun a s L=>?_;have lt_og75_0:=L.blt 4 rfl;have lt_og75_1:=L.mlt 6 rfl;refine zc9 81 L op op Ud.h Tq.h h74 J J J J ka fun a s og75 hg_ L=>?_;have d76:=Dis.app hg_ (Dis.symm d61) lt_og75_0;have d77:=Dis.app hg_ d63 lt_og75_1;refine sA 1 L fun a s L=>?_;refine en' (H65 _ _ ?_);obtain ⟨h78,h⟩:=h;refine rg (sA 2 L fun a s L=>?_);refine en' ?_;exact hKL60 a s ⟨(list53++[(e66.2,i20,e66.1)]),(zfu seen55 r72 true),(v57+1),og75,og56,L.kk,(Dis.symm d76),d62,d77,h⟩
     ·refine wp_skip (H65 _ _ ?_);obtain ⟨h79,h⟩:=h;refine rg (sA 2 L fun a s L=>?_);refine en' ?_;exact hKL60 a s ⟨list53,seen55,(v57+1),og54,og56,L.kk,d61,d62,d63,h⟩
    ·refine wp_exit ?_;exact J48 list53 seen55 og54 og56 a s (L.kk) d61 d62 d63 h
 ·refine wp_exit ?_;exact J13 v15 list16 og17 a s (L.kk) d24 h
section
variable {u : Bool} [Dr u]
def Pd.e0:Pd:=⟨fun _ v=>∃ad,v = .slice ad 0 0,fun _=>False,fun _ _ h=>h⟩
section
variable {P : Program} {ops : Array Oper} {o : Oper} {L : Lst}
theorem t_to00 {α:Type} {E:En α} {xs:List α} {y z z':Operand} {t te:TypeId} (hy:Opn L y (Pd.rep (En.slice E) xs)) (hz:Opn L z (Pd.rep (En.int .i64) 0)) (hz':Opn L z' (Pd.rep (En.int .i64) 0)) (ht:P.underlying t=some (.slice te)) (hE:Ty P te E)
  (ho:o.op = .slice t y none (some z) (some z')) (hg:o.guard=none):T P ops o L Pd.e0:=
 T.pure hg fun M n s0 ac s hL=>by
  obtain ⟨ad,cap,hv,h1,h2,h3,h4⟩:=zbl.1 (hy M n s0 ac s hL);have hiv:=(z6.1 (hz M n s0 ac s hL)).1;have hiv':=(z6.1 (hz' M n s0 ac s hL)).1;refine ⟨.slice ad 0 0, ?_,ad,rfl⟩;unfold execOp;rw [ho];simp [hv,hiv,hiv',Instr.sliceAt,run_underlying ht,Instr.slice,Instr.sliceBounds,Instr.sliceBound,asIntOf,zbq hE]
theorem t_upto3 {α:Type} {E:En α} {xs:List α} {i:Int} {y z z':Operand} {t te:TypeId} (hy:Opn L y (Pd.rep (En.slice E) xs)) (hz:Opn L z (Pd.rep (En.int .i64) i)) (hz':Opn L z' (Pd.rep (En.int .i64) i)) (hi:0≤i∧i≤(xs.length:Int)) (ht:P.underlying t=some (.slice te)) (hE:Ty P te E)
  (ho:o.op = .slice t y none (some z) (some z')) (hg:o.guard=none):T P ops o L (Pd.rep (En.slice E) (xs.take i.toNat)):=
 T.pure hg fun M n s0 ac s hL=>by
  obtain ⟨ad,cap,hv,h1,h2,h3,h4⟩:=zbl.1 (hy M n s0 ac s hL);have hiv:=(z6.1 (hz M n s0 ac s hL)).1;have hiv':=(z6.1 (hz' M n s0 ac s hL)).1;have hlen:(xs.take i.toNat).length=i.toNat:=by rw [List.length_take];omega
  refine ⟨.slice (if i.toNat=0 then ad else ad.map (·.add (0*E.sz))) i.toNat i.toNat, ?_,zbl.2 ⟨_,_,by rw [hlen],by rw [hlen];omega,fun hn=>?_,by rw [hlen];omega,fun hne=>?_⟩⟩
  ·unfold execOp;rw [ho];simp only [hv,hiv,hiv',Option.map_some,Option.map_none,Instr.sliceAt,Sem.run_bind,run_underlying ht,Result.andThen_ok,Instr.slice,Instr.sliceBounds,Instr.sliceBound,asIntOf,Sem.run_pure];rw [if_pos (by omega)];simp only [Sem.run_pure,Result.andThen_ok];rw [if_pos (by omega)];simp [zbq hE]
  ·split at hn
   ·assumption
   ·cases ad with
    | none=>have:=h2 rfl;omega
    | some a=>cases hn
  ·have hlt:0<i.toNat:=by
    rcases Nat.eq_zero_or_pos i.toNat with h | h
    ·rw [h] at hne;simp at hne
    ·exact h
   obtain ⟨b,off,css,e1,hb,hEl,hc⟩:=h4 (by intro h;rw [h] at hi;simp at hi;omega);refine ⟨b,off,css.take i.toNat, ?_,hb,zrb hEl _,fun j u hu=>hc j u (zn0 _ hu)⟩;rw [if_neg (by omega),e1];simp [zek]
end
end
section
variable {P : Program} {ops : Array Oper} {o : Oper} {L : Lst}
theorem run_app_e0 {α:Type} {E:En α} {t te:TypeId} (ht:P.underlying t=some (.slice te)) (hE:Ty P te E) {ys:List α} {s:St} {ad:Option Addr} {u:Value} (hu:SlV E s.w (zfn s) u ys) (hne:ys≠[]) (hlen:ys.length≤2147483648) (ty:TypeId):
  (Builtin.append_ #[t,t] ty #[.slice ad 0 0,u]).run P s.w=(Builtin.append_ #[t,t] ty #[.slice none 0 0,u]).run P s.w:=by
 obtain ⟨i,z,hi,hsz,hz,hzs,hby⟩:=hE.info;obtain ⟨ad',cap,rfl,h1,h2,h3,h4⟩:=hu;obtain ⟨b,off,css,rfl,hb,hEl,hc⟩:=h4 hne;have hpos:0<ys.length:=List.length_pos_iff.2 hne;have hdl:css.flatten.length=ys.length*E.sz:=by rw [zga hEl.lens,hEl.1]
 have hnews:∀j u,css.flatten[j]?=some u→s.w.cell? ((⟨b,off,none⟩:Addr).add j)=some u:=fun j u hu=>by rw [zek];exact hc j u hu
 have hby':ys.length*i.bytes≤140737488355328:=by
  have:=Nat.mul_le_mul hlen hby;omega
 cases ad with
 | none=>rfl
 | some a0=>
  rw [run_append_grow (P:=P) s.w t ty te i z ht hi hz a0 0 0 [] (by simp) (by simp) ⟨b,off,none⟩ ys.length cap css.flatten (by rw [hsz];exact hdl) hnews (by omega) (by omega) (by rw [Nat.zero_add,nextslicecap_zero hpos];omega)];rw [run_append_nil (P:=P) s.w t ty te i z ht hi hz ⟨b,off,none⟩ ys.length cap css.flatten (by rw [hsz];exact hdl) hnews hpos (by omega) (by omega)];simp
theorem st_appe {Q:Exit→Act→World→Prop} {rest:List Oper} {M:Nat→Prop} {n:Nat} {s0:St} {a:Act} {s:St} {α:Type} {E:En α} {te t:TypeId} {ys:List α} {x y:Operand} (d:Nat)
  (hL:Has M n s0 a s L) (hx:Opn L x Pd.e0) (hy:Opn L y (Pd.rep (En.slice E) ys)) (ht:P.underlying t=some (.slice te)) (hE:Ty P te E) (hlen:ys.length≤2147483648)
  (ho:o.op = .call { callee:=.builtin .append,args:=#[x,y],argTypes:=#[t,t] }) (hg:o.guard=none) (hd:o.dst=some d) (hn:Nat.blt d n=true)
  (k:∀a' s',Has M n s0 a' s' ((d,Pd.rep (En.slice E) ys)::L)→wpList P ops Q rest a' s'.w):wpList P ops Q (o::rest) a s.w:=by
 obtain ⟨ad,hx0⟩:=hx M n s0 a s hL;have h2:=zbl.1 (hy M n s0 a s hL)
 by_cases hne:ys=[]
 ·subst hne;obtain ⟨i,z,hi,hsz,hz,hzs,hby⟩:=hE.info;have hr:(Builtin.append_ #[t,t] o.type #[.slice ad 0 0,a.eval y]).run P s.w = .ok (.slice ad 0 0) s.w:=by
   obtain ⟨ad',cap,hv,k1,k2,k3,k4⟩:=h2;rw [hv];cases ad' with
   | none=>cases ad <;> simp [Builtin.append_,run_underlying ht,sizeOf,typeInfo,hi,Builtin.lenOf,Builtin.firstCells,storeCells]
   | some b=>
    have hf:=run_firstCells_some (P:=P) s.w i.size 0 b 0 cap [] (by simp) (by simp);cases ad <;> simp [Builtin.append_,run_underlying ht,sizeOf,typeInfo,hi,Builtin.lenOf,hf,storeCells]
  refine wpList_plain hg fun K hK=>?_;unfold Oper.wp execOp;simp only [ho,resolve,invoke,builtin,Sem.run_bind,Sem.run_pure,Result.andThen_ok,List.map_toArray,List.map_cons,List.map_nil,hx0,hr];refine hK _ _ ?_;simp only [hd];exact k _ s (hL.put' hn (zbl.2 ⟨ad,0,rfl,Nat.le_refl _,fun _=>rfl,Nat.zero_le _,fun h=>absurd rfl h⟩))
 ·have hn0:(Pd.row E s0.w.heap.size te none ([]:List α)).p s (.slice none 0 0):=own_nil _ _ _ _;obtain ⟨v',s',og',hr,e,hq,hf⟩:=run_app ht hE hn0 h2 hL.ent.mv.size (by simpa using hlen) o.type;rw [← run_app_e0 ht hE (ad:=ad) h2 hne hlen o.type] at hr;have ex:Ex s ⟨s'.w,fun b=>s'.X b∧og'≠some b,fun b hb=>s'.lt b hb.1⟩:=
   ⟨⟨e.mv.dr,e.mv.os,e.mv.tape,e.mv.output,e.mv.size,fun b hb _=>e.mv.blk b hb (by simp),fun _ h=>h.elim,fun b hb=>e.mv.xx b hb.1⟩,fun b hb=>⟨e.keep b hb (by simp),fun h=>(hf b h).elim (fun h=>by cases h) fun h=>by have:=s.lt b hb;omega⟩⟩
  refine wpList_plain hg fun K hK=>?_;unfold Oper.wp execOp;simp only [ho,resolve,invoke,builtin,Sem.run_bind,Sem.run_pure,Result.andThen_ok,List.map_toArray,List.map_cons,List.map_nil,hx0,hr];refine hK _ _ ?_;simp only [hd];have hq':(Pd.rep (En.slice E) ys).p ⟨s'.w,fun b=>s'.X b∧og'≠some b,fun b hb=>s'.lt b hb.1⟩ v':=by
   rw [List.nil_append] at hq;exact zbl.2 (zqn hq rfl fun b hb=>hb)
  exact k _ ⟨s'.w,fun b=>s'.X b∧og'≠some b,fun b hb=>s'.lt b hb.1⟩ (hL.put ex hn hq')
end
end Go.Proofs.YtkbboemafklkkaaGreatDoor.V
namespace Go.Proofs.YtkbboemafklkkaaGreatDoor.V
open Go
set_option linter.unusedVariables false
section
variable {P : Program} {ops : Array Oper} {Q : Exit → Act → World → Prop} {a : Act} {w : World} {f : Nat} {listed : Array Bool}
def Qn (Q:Exit→Act→World→Prop) (K:Act→World→Prop):Exit→Act→World→Prop
 | .normal,a,w=>K a w
 | e,a,w=>Q e a w
theorem upon_n {o:Oper} {K K':Act→World→Prop} (hK:∀a w,K' a w→K a w) (r:Result Next) (h:o.upon P a K' (Qn Q K) r):o.upon P a K Q r:=by
 cases r with
 | ok n w'=>
  cases n <;> simp only [Oper.upon] at h ⊢ <;>
   first
    | exact hK _ _ h
    | exact Calls.mono h (fun e w'' he=>by cases e <;> first | exact hK _ _ he | exact he)
    | exact Rows.mono h (fun _ _ he=>hK _ _ he)
 | halt x w'=>cases x <;> simp only [Oper.upon] at h ⊢ <;> exact h
theorem op_of {i:Nat} {o:Oper} {K:Act→World→Prop} (hi:ops[i]?=some o) (h:wpList P ops (Qn Q K) [o] a w):wpOp P ops Q i K a w:=by
 unfold wpOp;rw [hi];simp only [wpList] at h ⊢;split
 ·rename_i hw
  rw [if_pos hw] at h;exact h.imp (fun h=>upon_n (fun _ _ h=>h) _ h) id
 ·rename_i hw
  rw [if_neg hw] at h;exact h
theorem ol {K:Act→World→Prop} (h:K a w):wpList P ops (Qn Q K) [] a w:=h
theorem anS {l:List Oper} {id:Nat} {M:Nat→Prop} {n:Nat} {s0 s:St} {L:Lst} (N:Nat) (LF:Lst) (hf:P.follows .mixedOrders=true) (hL:Has M n s0 a s L) (hN:Nat.beq l.toArray.size N=true) (hJ:∀a' s',Has M n s0 a' s' LF→wpList P l.toArray Q [] a' s'.w)
  (h:(∀a' s',Has M n s0 a' s' LF→wpList P l.toArray Q [] a' s'.w)→∀s',Ex s s'→Has M n s0 a s' L→wpAny P .any l.toArray Q N (Array.replicate N false) a s'.w):(Code.region id l.toArray true).wp P Q a s.w:=
 rdf N hf hL (Nat.eq_of_beq_eq_true hN) (h hJ)
theorem an0 (hr:Region.ready .any ops listed=[]) (h:wpList P ops Q [] a w):wpAny P .any ops Q 0 listed a w:=⟨hr,h⟩
theorem an1 {i:Nat} {o:Oper} (hr:Region.ready .any ops listed=[i]) (hi:ops[i]?=some o) (h:wpList P ops (Qn Q (wpAny P .any ops Q f (listed.setIfInBounds i true))) [o] a w):wpAny P .any ops Q (f+1) listed a w:=
 wpAny_all hr (by simp) fun j hj=>by rw [List.mem_singleton.1 hj];exact op_of hi h
theorem an2 {i j:Nat} {o p:Oper} (hr:Region.ready .any ops listed=[i,j]) (hi:ops[i]?=some o) (hj:ops[j]?=some p) (h:wpList P ops (Qn Q (wpAny P .any ops Q f (listed.setIfInBounds i true))) [o] a w)
  (k:wpList P ops (Qn Q (wpAny P .any ops Q f (listed.setIfInBounds j true))) [p] a w):wpAny P .any ops Q (f+1) listed a w:=
 wpAny_all hr (by simp) fun q hq=>by
  rcases List.mem_cons.1 hq with e | hq
  ·rw [e];exact op_of hi h
  ·rw [List.mem_singleton.1 hq];exact op_of hj k
end
section
variable {P : Program} {ops : Array Oper} {o : Oper} {L : Lst}
theorem y_ext0 {q r:Pd} {x:Operand} (hx:Opn L x (Pd.tup2 q r)) (ho:o.op = .extract x 0) (hg:o.guard=none):TY P o L q:=
 ⟨hg,fun M n s0 a s hL=>by
  obtain ⟨u,v,hv,h1,h2⟩:=hx M n s0 a s hL;refine ⟨u,fun w=>?_,h1⟩;unfold execOp;rw [ho];simp [hv,Instr.extract]⟩
theorem y_ext1 {q r:Pd} {x:Operand} (hx:Opn L x (Pd.tup2 q r)) (ho:o.op = .extract x 1) (hg:o.guard=none):TY P o L r:=
 ⟨hg,fun M n s0 a s hL=>by
  obtain ⟨u,v,hv,h1,h2⟩:=hx M n s0 a s hL;refine ⟨v,fun w=>?_,h2⟩;unfold execOp;rw [ho];simp [hv,Instr.extract]⟩
end
end Go.Proofs.YtkbboemafklkkaaGreatDoor.V
namespace Go.Proofs.YtkbboemafklkkaaGreatDoor.V
open Go
set_option linter.unusedVariables false
def zbe.j1 (r_:(List SOn_scantling_prefix_thing_search)) (out6:(List SOn_scantling_prefix_thing_search)):Prop:=r_=out6
def zbe.l1 (x_:Sthing_prefix) (cap0_:SDesc) (r1:Bool) (r4:(List Int)) (X1:(List SOn_scantling_prefix_thing_search)→Prop):Nat→(List SOn_scantling_prefix_thing_search)→Int→Prop
 | 0,_,_=>False
 | k_0+1,out9,v11=>((decide (v11<(r4.length:Int)))=true→∃e17:Int,at? r4 v11=some e17∧∃r19:(List (List SItem)),zb8 cap0_ x_.1 e17 r19∧(out9.length+[(e17,(r19,(x_.2||r1)))].length≤2147483648)∧(InR .i64 (v11+1))∧zbe.l1 x_ cap0_ r1 r4 X1 k_0 (out9++[(e17,(r19,(x_.2||r1)))]) (v11+1))∧((decide (v11<(r4.length:Int)))=false→X1 out9)
def zbe (x_:Sthing_prefix) (cap0_:SDesc) (r_:(List SOn_scantling_prefix_thing_search)):Prop:=∃r1:Bool,(((x_.2)=false)→zgi cap0_ x_.1 r1)∧∃r4:(List Int),zi2 cap0_ x_.1 r4∧∃k12,zbe.l1 x_ cap0_ r1 r4 (zbe.j1 r_) k12 ([]:(List SOn_scantling_prefix_thing_search)) 0
def zdz (x_:Sthing_prefix) (cap0_:SDesc) (r_:Bool):Prop:=∃r1:Bool,(((x_.2)=true)→zgi cap0_ x_.1 r1)∧r_=(x_.2&&r1)
def zfj (x_:Sthing_prefix) (r_:Str):Prop:=((x_.2)=true→∃r2:Str,zme x_.1 r2∧(([33]:Str).length+r2.length≤9223372036854775807)∧r_=([33]:Str)++r2)∧((x_.2)=false→∃r5:Str,zme x_.1 r5∧r_=r5)
def zcf.l1 (d_:SDesc) (w_:(List Int)) (r_:((List Int) × Bool)) (X1:Prop):Nat→(List (List SItem))→Int→Prop
 | 0,_,_=>False
 | k_0+1,l3,i4=>∃r10:Bool,zgi d_ l3 r10∧((r10)=true→((0:Int)≤i4∧i4≤(w_.length:Int))∧((w_.take (i4:Int).toNat).length≤2147483648)∧r_=((w_.take (i4:Int).toNat),true))∧((r10)=false→(((i4==(w_.length:Int)))=true→r_=(([]:(List Int)),false))∧(((i4==(w_.length:Int)))=false→∃e15:Int,at? w_ i4=some e15∧∃r17:(List (List SItem)),zb8 d_ l3 e15 r17∧(InR .i64 (i4+1))∧zcf.l1 d_ w_ r_ X1 k_0 r17 (i4+1)))
def zcf (d_:SDesc) (w_:(List Int)) (r_:((List Int) × Bool)):Prop:=∃r1:(List (List SItem)),zhh d_ r1∧∃k5,zcf.l1 d_ w_ r_ True k5 r1 0
def zcr (d_:SDesc) (budget_:Int) (r_:SVerdict):Prop:=∃r2:(List (List SItem)),zhh d_ r2∧∃r4:SFound_scantling_prefix_thing_search,ze ((r2,false),(fun q_=>zfj q_.1 q_.2),(fun q_=>zbe q_.1 d_ q_.2),(fun q_=>zdz q_.1 d_ q_.2)) budget_ r4∧(((r4.1.1==2))=true→∃r9:((List Int) × Bool),zcf d_ r4.1.2.1 r9∧r_=(r4.1.1,r9.1,r4.1.2.1,r4.1.2.2.2.1,r4.1.2.2.2.2.1,r4.1.2.2.2.2.2.1,r4.1.2.2.2.2.2.2))∧(((r4.1.1==2))=false→r_=r4.1)
def zgn  (r_:Bool):Prop:=∃r1:Cl,zcp 0 255 r1∧∃r4:SDesc,zhj 4 [(2,0,0,0,0,r1,([]:Str))] [(2,0,0,0,0,r1,([]:Str))] r4∧∃r8:SDesc,zhj 5 [(2,0,0,0,0,r1,([]:Str))] r4 r8∧∃r13:SVerdict,zcr r8 9 r13∧∃r18:SVerdict,zcr r4 9 r18∧∃r24:((List Int) × Bool),zcf r8 [7,8,9] r24∧∃r26:((List Int) × Bool),zcf r4 [7] r26∧∃r28:Bool,((((r13.1==2))=true)→zbr r13.2.1 [0] r28)∧∃r30:Bool,(((((r13.1==2)&&r28))=true)→zbr r13.2.2.1 [0,0] r30)∧∃b32:Bool,b32=(((((r13.1==2)&&r28)&&r30)&&(r18.1==1))&&((r18.2.2.1.length:Int)==0))∧∃r34:SVerdict,(((b32)=true)→zcr r4 1 r34)∧∃r36:SVerdict,((((b32&&(r34.1==3)))=true)→zcr r4 (-1) r36)∧∃r38:Bool,(((((b32&&(r34.1==3))&&(r36.2.2.2.2.2.2==0)))=true)→zbr r24.1 [7] r38)∧∃b40:Bool,b40=(((b32&&(r34.1==3))&&(r36.2.2.2.2.2.2==0))&&r38)∧r_=((b40&&r24.2)&&(!r26.2))
def zko (d_:SDesc) (r_:Bool):Prop:=∃r1:Bool,zcx d_ r1∧∃r3:Int,((((r1&&(decide ((d_.length:Int)≤16))))=true)→zj d_ r3)∧∃b5:Bool,b5=((r1&&(decide ((d_.length:Int)≤16)))&&(decide (r3≤60)))∧∃r7:Bool,(((b5)=true)→zgl d_ r7)∧r_=(b5&&r7)
def z7.j1 (r_:Bool) (r10:((List Int) × Bool)):Prop:=r_=(r10.2||((r10.1.length:Int)==0))
def z7.l1 (d_:SDesc) (w_:(List Int)) (n14:Int) (r_:Bool) (X1:Prop):Nat→Int→Prop
 | 0,_=>False
 | k_0+1,i18=>((decide (i18<n14))=true→((0:Int)≤i18∧i18≤(w_.length:Int))∧∃r25:Int,zhi d_ (w_.take (i18:Int).toNat) r25∧((decide (0<r25))=true→r_=false)∧((decide (0<r25))=false→(InR .i64 (i18+1))∧z7.l1 d_ w_ n14 r_ X1 k_0 (i18+1)))∧((decide (i18<n14))=false→X1)
def z7.j2 (d_:SDesc) (w_:(List Int)) (r_:Bool) (r10:((List Int) × Bool)) (n14:Int):Prop:=∃k19,z7.l1 d_ w_ n14 r_ (z7.j1 r_ r10) k19 0
def z7 (d_:SDesc) (w_:(List Int)) (more_:(List Int)) (r_:Bool):Prop:=∃r2:Bool,zgn  r2∧∃r4:Bool,((((!r2))=false)→zko d_ r4)∧∃b6:Bool,b6=(((!r2)||(!r4))||(decide (8<(w_.length:Int))))∧(((b6||(decide (8<(more_.length:Int)))))=true→∃r8:Bool,zgn  r8∧r_=r8)∧(((b6||(decide (8<(more_.length:Int)))))=false→∃r10:((List Int) × Bool),zcf d_ w_ r10∧(InR .i64 ((w_.length:Int)+1))∧((r10.2)=true→(((decide ((w_.length:Int)<(r10.1.length:Int)))=false)→(0:Int)≤(r10.1.length:Int)∧(r10.1.length:Int)≤(w_.length:Int))∧∃r30:Bool,(((decide ((w_.length:Int)<(r10.1.length:Int)))=false)→zbr (w_.take ((r10.1.length:Int):Int).toNat) r10.1 r30)∧∃b32:Bool,b32=((decide ((w_.length:Int)<(r10.1.length:Int)))||(!r30))∧∃r34:Int,(((b32)=false)→zhi d_ r10.1 r34)∧(((b32||(r34==0)))=true→r_=false)∧(((b32||(r34==0)))=false→(([]:(List Int)).length+w_.length≤2147483648)∧((([]:(List Int))++w_).length+more_.length≤2147483648)∧∃r41:((List Int) × Bool),zcf d_ ((([]:(List Int))++w_)++more_) r41∧∃r43:Bool,((((!r41.2))=false)→zbr r10.1 r41.1 r43)∧((((!r41.2)||(!r43)))=true→r_=false)∧((((!r41.2)||(!r43)))=false→(z7.j2 d_ w_ r_ r10) (r10.1.length:Int))))∧((r10.2)=false→(z7.j2 d_ w_ r_ r10) ((w_.length:Int)+1)))
set_option maxRecDepth 100000
set_option maxHeartbeats 2000000
set_option synthInstance.maxSize 100000
set_option synthInstance.maxHeartbeats 200000
theorem zle {x_:Sthing_prefix} {cap0_:SDesc} {r_:(List SOn_scantling_prefix_thing_search)} (h:zbe x_ cap0_ r_):Fn Tryz.prog 49 [(Pd.rep En.Sthing_prefix x_),(Pd.ptr En.SDesc cap0_)] (Ro En.SOn_scantling_prefix_thing_search 86 r_):=by
 unfold zbe at h;refine zbp Tryz.func49 J Tryz.ntmps49 (by rfl) (by simp) fun s0 a L=>?_;refine rs (sA 1 L fun a s L=>?_);refine sno En.SOn_scantling_prefix_thing_search 86 L fun a s L=>?_;refine es (rs ?_);refine sno En.SOn_scantling_prefix_thing_search 86 L fun a s L=>?_;refine es ?_;obtain ⟨r1,h2,h⟩:=h;refine ra 9 (pp (fun hc_=>(zih (h2 hc_))) trivial) L fun a s L=>?_;refine wp_seq_k fun K3 H3=>?_;obtain ⟨r4,h5,h⟩:=h;refine ra 6 (p1 ((zp3 h5).frz)) L fun a s L=>?_;refine wp_block ?_;have J8:∀(out6:(List SOn_scantling_prefix_thing_search)) (og7:Option Nat) (a:Act) (s:St),Has N0 39 s0 a s [(4,(Pd.row En.SOn_scantling_prefix_thing_search s0.w.heap.size 86 og7 out6))]→((zbe.j1 r_) out6)→K3 a s.w:=by
  intro out6 og7 a s L h;unfold zbe.j1 at h;show K3 a s.w;refine H3 _ _ (rA 2 L fun a s L=>?_);subst h;exact wp_ret (zf2 J L J)
 obtain ⟨k12,h⟩:=h;refine lpn (fun k13 a s=>∃(out9:(List SOn_scantling_prefix_thing_search)) (v11:Int) (og10:Option Nat),Has N0 39 s0 a s [(1,(Pd.ptr En.SDesc cap0_)),(2,(Pd.ptr En.Sthing_prefix x_)),(4,(Pd.row En.SOn_scantling_prefix_thing_search s0.w.heap.size 86 og10 out9)),(5,(Pd.rep En.bool (x_.2||r1))),(19,(Pd.rep (En.slice (En.int .u8)) r4)),(20,(Pi (r4.length:Int))),(21,(Pi v11))]∧zbe.l1 x_ cap0_ r1 r4 (zbe.j1 r_) k13 out9 v11) k12 ⟨([]:(List SOn_scantling_prefix_thing_search)),0,none,L.kk,h⟩ ?_;rintro k13 a s ⟨out9,v11,og10,L,h⟩ KL14 hKL14;unfold zbe.l1 at h;refine rA 1 L fun a s L=>?_;refine wp_seq_k fun K15 H15=>cn L h (fun h=>?_) fun h=>?_
 ·refine wp_skip (H15 _ _ ?_);refine wp_seq_k fun K16 H16=>wp_block ?_;obtain ⟨e17,h18,h⟩:=h;refine ra 3 (p1 h18) L fun a s L=>?_;obtain ⟨r19,h20,h21,h⟩:=h;refine rg (sl 8 (p1 ((zpc h20).frz)) L fun a s L=>?_);refine sv (zcc (x:=(r19,(x_.2||r1))) (ps:=[(0,.tmp 31),(1,.tmp 32)]) tyz80 J stt80 (.cons (i:=0) op J (zba (zo _ _ _)) (.cons (i:=1) op J (zn (zo _ _ _) J) .nil)) J J) L fun a s L=>?_;refine sv (zcc (x:=(e17,(r19,(x_.2||r1)))) (ps:=[(0,.tmp 26),(1,.tmp 33)]) tyz86 J stt86 (.cons (i:=0) op J (zba (zo _ _ _)) (.cons (i:=1) op J (zn (zo _ _ _) J) .nil)) J J) L fun a s L=>?_;refine sA 1 L fun a s L=>?_;refine zc9 36 L op op Ud.h Tq.h h21 J J J J ka fun a s og22 hg_ L=>?_;refine sA 1 L fun a s L=>?_;refine en' (H16 _ _ ?_);obtain ⟨h23,h⟩:=h;refine rg (sA 2 L fun a s L=>?_);refine en' ?_;exact hKL14 a s ⟨(out9++[(e17,(r19,(x_.2||r1)))]),(v11+1),og22,L.kk,h⟩
 ·refine wp_exit ?_;exact J8 out9 og10 a s (L.kk) h
theorem zld {x_:Sthing_prefix} {cap0_:SDesc} {r_:Bool} (h:zdz x_ cap0_ r_):Fn Tryz.prog 53 [(Pd.rep En.Sthing_prefix x_),(Pd.ptr En.SDesc cap0_)] (Rq (Pd.rep En.bool r_)):=by
 unfold zdz at h;refine zbp Tryz.func53 J Tryz.ntmps53 (by rfl) (by simp) fun s0 a L=>?_;refine rA 2 L fun a s L=>?_;obtain ⟨r1,h2,h⟩:=h;refine ra 9 (pp (fun hc_=>(zih (h2 hc_))) trivial) L fun a s L=>?_;subst h;exact wp_ret (zdx J L J)
theorem zqi {x_:Sthing_prefix} {r_:Str} (h:zfj x_ r_):Fn Tryz.prog 55 [(Pd.rep En.Sthing_prefix x_)] (Rq (Pd.rep En.str r_)):=by
 unfold zfj at h;refine zbp Tryz.func55 J Tryz.ntmps55 (by rfl) (by simp) fun s0 a L=>?_;refine rs (sA 1 L fun a s L=>?_);refine sv (zbd (o_s (by decide)) J J) L fun a s L=>?_;refine es (wp_seq_k fun K1 H1=>?_);refine rA 2 L fun a s L=>?_;refine cn L h (fun h=>?_) fun h=>?_
 ·obtain ⟨r2,h3,h4,h⟩:=h;refine rs (sl 3 (p1 (zm5 h3)) L fun a s L=>?_);refine sv (t_stradd (o_s (by decide)) op h4 J J) L fun a s L=>?_;refine sA 1 L fun a s L=>?_;refine es ?_;subst h;exact wp_ret (zdx J L J)
 ·refine wp_skip (H1 _ _ ?_);obtain ⟨r5,h6,h⟩:=h;refine ra 4 (p1 (zm5 h6)) L fun a s L=>?_;subst h;exact wp_ret (zdx J L J)
theorem zdg {d_:SDesc} {w_:(List Int)} {r_:((List Int) × Bool)} (h:zcf d_ w_ r_):Fn Tryz.prog 28 [(Pd.rep En.SDesc d_),(Pd.rep (En.slice (En.int .u8)) w_)] (Rq2 (Pd.rep (En.slice (En.int .u8)) r_.1) (Pd.rep En.bool r_.2)):=by
 unfold zcf at h;refine zbp Tryz.func28 J Tryz.ntmps28 (by rfl) (by simp) fun s0 a L=>?_;refine rs (sA 1 L fun a s L=>?_);refine snr (En.int .u8) L fun a s L=>?_;refine sA 1 L fun a s L=>?_;refine es ?_;obtain ⟨r1,h2,h⟩:=h;refine ra 3 (p1 ((zj6 h2).frz)) L fun a s L=>?_;refine rA 1 L fun a s L=>?_;refine wp_block ?_;obtain ⟨k5,h⟩:=h;refine lpn (fun k6 a s=>∃(l3:(List (List SItem))) (i4:Int),Has N0 33 s0 a s [(1,(Pd.rep (En.slice (En.int .u8)) w_)),(2,(Pd.ptr En.SDesc d_)),(6,(Pd.rep (En.slice (En.slice En.SItem)) l3)),(7,(Pi i4))]∧zcf.l1 d_ w_ r_ True k6 l3 i4) k5 ⟨r1,0,L.kk,h⟩ ?_;rintro k6 a s ⟨l3,i4,L,h⟩ KL7 hKL7;unfold zcf.l1 at h;refine wp_seq_k fun K8 H8=>wp_block (wp_seq_k fun K9 H9=>?_);obtain ⟨r10,h11,h⟩:=h;refine ra 3 (p1 (zih h11)) L fun a s L=>?_;refine cn L h (fun h=>?_) fun h=>?_
 ·obtain ⟨h12,h13,h⟩:=h;refine wp_seq (rda zdl 6 [(Pd.rep (En.slice (En.int .u8)) w_),Pd.e0,(Pd.rep (En.slice (En.int .u8)) w_),(Pi i4),(Pi i4),(Pd.rep (En.slice (En.int .u8)) (w_.take (i4:Int).toNat))] L (by kernel_rfl) J J ?_ ?_)
  ·refine zbj.cons (zp (O 1 J) J J) ?_;refine zbj.cons (t_to00 (O 15 J) oI oI U25 ty5 J J) ?_;refine zbj.cons (zp (O 1 J) J J) ?_;refine zbj.cons (zp (O 7 J) J J) ?_;refine zbj.cons (zp (O 7 J) J J) ?_;refine zbj.cons (t_upto3 (O 17 J) (O 18 J) (O 19 J) h12 U25 ty5 J J) ?_;exact zbj.nil
  intro a s _ L;replace L:=L.kk (L':=[(16,Pd.e0),(20,(Pd.rep (En.slice (En.int .u8)) (w_.take (i4:Int).toNat)))]);refine dp ?_;refine st_appe 21 L op op Ud.h Tq.h h13 J J J J fun a s L=>?_;refine sA 2 L fun a s L=>?_;refine es ?_;subst h;exact wp_ret (ret2 J L J J)
 ·refine wp_skip (H9 _ _ ?_);refine wp_seq_k fun K14 H14=>rA 4 L fun a s L=>?_;refine cn L h (fun h=>?_) fun h=>?_
  ·refine rs ?_;refine snr (En.int .u8) L fun a s L=>?_;refine sA 1 L fun a s L=>?_;refine es ?_;subst h;exact wp_ret (ret2 J L J J)
  ·refine wp_skip (H14 _ _ ?_);obtain ⟨e15,h16,r17,h18,h⟩:=h;refine rdx 7 (pp h16 (p1 ((zpc h18).frz))) L fun a s L=>?_;refine sA 1 L fun a s L=>?_;refine en' (H8 _ _ ?_);obtain ⟨h19,h⟩:=h;refine rg (sA 3 L fun a s L=>?_);refine en' ?_;exact hKL7 a s ⟨r17,(i4+1),L.kk,h⟩
theorem ze8 {d_:SDesc} {budget_:Int} {r_:SVerdict} (h:zcr d_ budget_ r_):Fn Tryz.prog 26 [(Pd.rep En.SDesc d_),(Pi budget_)] (Rq (Pd.rep En.SVerdict r_)):=by
 unfold zcr at h;refine zbp Tryz.func26 J Tryz.ntmps26 (by rfl) (by simp) fun s0 a L=>?_;refine rs (sA 1 L fun a s L=>?_);refine zbb En.SVerdict (z:=(0,[],[],0,0,0,0)) 4 L tyz31 J J J J fun a s g1 hg_ L=>?_;refine es (rs ?_);refine sv (t_q (Pd.rep EnF87 (fun q_=>zbe q_.1 d_ q_.2)) (zpx (cs:=[.tmp 2]) (.cons op .nil) (zfc Tryz.func49 J (by rfl)) (zmk zq9 zra) (fun q_ h_=>(zle h_).frz) J J)) L fun a s L=>?_;refine sA 1 L fun a s L=>?_;refine es (rs ?_);refine sv (t_q (Pd.rep EnF88 (fun q_=>zdz q_.1 d_ q_.2)) (zpx (cs:=[.tmp 2]) (.cons op .nil) (zfc Tryz.func53 J (by rfl)) (zmk zq9 zra) (fun q_ h_=>zld h_) J J)) L fun a s L=>?_;refine sA 1 L fun a s L=>?_;refine es ?_;obtain ⟨r2,h3,r4,h5,h⟩:=h;refine rs (sl 2 (p1 ((zj6 h3).frz)) L fun a s L=>?_);refine sv (zcc (x:=(r2,false)) (ps:=[(0,.tmp 11)]) tyz80 J stt80 (.cons (i:=0) op J (zba (zo _ _ _)) .nil) J J) L fun a s L=>?_;refine sA 2 L fun a s L=>?_;refine sv (zcc (x:=((r2,false),(fun q_=>zfj q_.1 q_.2),(fun q_=>zbe q_.1 d_ q_.2),(fun q_=>zdz q_.1 d_ q_.2))) (ps:=[(0,.tmp 12),(1,.func 55),(2,.tmp 13),(3,.tmp 14)]) tyz94 J stt94 (.cons (i:=0) op J (zba (zo _ _ _)) (.cons (i:=1) (o_q (Pd.rep EnF92 (fun q_=>zfj q_.1 q_.2)) (o_fun (zfc Tryz.func55 J (by rfl)) (fun q_ h_=>zqi h_))) J (zn (zba (zo _ _ _)) J) (.cons (i:=2) op J (zn (zn (zba (zo _ _ _)) J) J) (.cons (i:=3) op J (zn (zn (zn (zo _ _ _) J) J) J) .nil)))) J J) L fun a s L=>?_;refine sl 3 (p1 (ze5 h5)) L fun a s L=>?_;have lt_d7:=L.blt 4 rfl;refine zbb En.SVerdict (z:=(0,[],[],0,0,0,0)) 7 L tyz31 J J J J fun a s g6 hg_ L=>?_
 have d7:=Dis.newg hg_ lt_d7;refine sB 7 L fun s L=>?_;refine es (wp_seq_k fun K8 H8=>?_);refine rA 3 L fun a s L=>?_;refine cn L h (fun h=>?_) fun h=>?_
 ·refine rs ?_;refine sA 3 L fun a s L=>?_;refine zd3 7 L J op op (zn (zn (zba (zo _ _ _)) J) J) Tq.h J J J ka fun s L=>?_;refine es ?_;obtain ⟨r9,h10,h⟩:=h;refine rg (sl 8 (p1 ((zdg h10).tup)) L fun a s L=>?_);refine zd3 7 L J op op (zn (zba (zo _ _ _)) J) Tq.h J J J ka fun s L=>?_;refine en' (H8 _ _ ?_);refine rs (sA 1 L fun a s L=>?_);refine sB 4 L fun s L=>?_;refine es ?_;subst h;exact wp_ret (retb J ty31 L J)
 ·refine wp_skip (H8 _ _ ?_);refine rs (sA 1 L fun a s L=>?_);refine sB 4 L fun s L=>?_;refine es ?_;subst h;exact wp_ret (retb J ty31 L J)
theorem zjm  {r_:Bool} (h:zgn  r_):Fn Tryz.prog 24 [] (Rq (Pd.rep En.bool r_)):=by
 unfold zgn at h;refine zbp Tryz.func24 J Tryz.ntmps24 (by rfl) (by simp) fun s0 a L=>?_;refine rA 1 L fun a s L=>?_;obtain ⟨r1,h2,h⟩:=h;refine rs (sl 1 (p1 (ref01_Row_ok h2)) L fun a s L=>?_);refine sv (zcc (x:=(2,0,0,0,0,r1,([]:Str))) (ps:=[(0,.const (.int .i64 2)),(5,.tmp 10)]) zmu J stt40 (.cons (i:=0) op J (zba (zo _ _ _)) (.cons (i:=5) op J (zn (zn (zn (zn (zn (zba (zo _ _ _)) J) J) J) J) J) .nil)) J J) L fun a s L=>?_;refine sA 1 L fun a s L=>?_;refine sv (zcc (x:=[(2,0,0,0,0,r1,([]:Str))]) (ps:=[(0,.tmp 12)]) tyz24 J stt24 (.cons (i:=0) op J (sub_solo (zo _ _ _)) .nil) J J) L fun a s L=>?_;refine zbb En.SDesc (z:=[]) 1 L tyz24 J J J J fun a s g3 hg_ L=>?_;refine sB 1 L fun s L=>?_;refine es ?_;obtain ⟨r4,h5,h⟩:=h;refine rs (sl 3 (p1 (zke h5)) L fun a s L=>?_);have lt_d7:=L.blt 1 rfl;refine zbb En.SDesc (z:=[]) 2 L tyz24 J J J J fun a s g6 hg_ L=>?_;have d7:=Dis.newg hg_ lt_d7;refine sB 2 L fun s L=>?_;refine es ?_;obtain ⟨r8,h9,h⟩:=h;refine rs (sl 3 (p1 (zke h9)) L fun a s L=>?_);have lt_d12:=L.blt 2 rfl;have lt_d11:=L.blt 1 rfl;refine zbb En.SDesc (z:=[]) 3 L tyz24 J J J J fun a s g10 hg_ L=>?_;have d11:=Dis.newg hg_ lt_d11;have d12:=Dis.newg hg_ lt_d12;refine sB 3 L fun s L=>?_;refine es ?_;obtain ⟨r13,h14,h⟩:=h;refine rs (sl 2 (p1 (ze8 h14)) L fun a s L=>?_);have lt_d17:=L.blt 3 rfl;have lt_d16:=L.blt 2 rfl;refine zbb En.SVerdict (z:=(0,[],[],0,0,0,0)) 4 L tyz31 J J J J fun a s g15 hg_ L=>?_;have d16:=Dis.newg hg_ lt_d16;have d17:=Dis.newg hg_ lt_d17;replace L:=L.dr (some g3)
 refine sB 4 L fun s L=>?_;refine es ?_;obtain ⟨r18,h19,h⟩:=h;refine rs (sl 2 (p1 (ze8 h19)) L fun a s L=>?_);have lt_d23:=L.blt 4 rfl;have lt_d22:=L.blt 3 rfl;have lt_d21:=L.blt 2 rfl;refine zbb En.SVerdict (z:=(0,[],[],0,0,0,0)) 5 L tyz31 J J J J fun a s g20 hg_ L=>?_;have d21:=Dis.newg hg_ lt_d21;have d22:=Dis.newg hg_ lt_d22;have d23:=Dis.newg hg_ lt_d23;refine sB 5 L fun s L=>?_;refine es ?_;obtain ⟨r24,h25,h⟩:=h;refine ra 8 (p1 ((zdg h25).tup)) L fun a s L=>?_;obtain ⟨r26,h27,h⟩:=h;refine ra 8 (p1 ((zdg h27).tup)) L fun a s L=>?_;obtain ⟨r28,h29,r30,h31,b32,h33,r34,h35,r36,h37,r38,h39,b40,h41,h⟩:=h;refine ra 51 (pp (fun hc_=>(zen (h29 hc_))) (pp (fun hc_=>(zen (h31 hc_))) (pp h33 (pp (fun hc_=>(ze8 (h35 hc_))) (pp (fun hc_=>(ze8 (h37 hc_))) (pp (fun hc_=>(zen (h39 hc_))) (p1 h41))))))) L fun a s L=>?_;subst h;exact wp_ret (zdx J L J)
theorem law21_few_ok {d_:SDesc} {r_:Bool} (h:zko d_ r_):Fn Tryz.prog 25 [(Pd.rep En.SDesc d_)] (Rq (Pd.rep En.bool r_)):=by
 unfold zko at h;refine zbp Tryz.func25 J Tryz.ntmps25 (by rfl) (by simp) fun s0 a L=>?_;refine rA 2 L fun a s L=>?_;obtain ⟨r1,h2,r3,h4,b5,h6,r7,h8,h⟩:=h;refine ra 18 (pp (ref04_Few_ok h2) (pp (fun hc_=>(znb (h4 hc_))) (pp h6 (pp (fun hc_=>(zos (h8 hc_))) trivial)))) L fun a s L=>?_;subst h;exact wp_ret (zdx J L J)
theorem law21_PrefixCut_ok {d_:SDesc} {w_:(List Int)} {more_:(List Int)} {r_:Bool} (h:z7 d_ w_ more_ r_):Fn Tryz.prog 7 [(Pd.rep En.SDesc d_),(Pd.rep (En.slice (En.int .u8)) w_),(Pd.rep (En.slice (En.int .u8)) more_)] (Rq (Pd.rep En.bool r_)):=by
 unfold z7 at h;refine zbp Tryz.func7 J Tryz.ntmps7 (by rfl) (by simp) fun s0 a L=>?_;refine rA 2 L fun a s L=>?_;refine wp_seq_k fun K1 H1=>?_;obtain ⟨r2,h3,r4,h5,b6,h7,h⟩:=h;refine ra 17 (pp (zjm h3) (pp (fun hc_=>(law21_few_ok (h5 hc_))) (p1 h7))) L fun a s L=>?_;refine cn L h (fun h=>?_) fun h=>?_
 ·obtain ⟨r8,h9,h⟩:=h;refine ra 2 (p1 (zjm h9)) L fun a s L=>?_;subst h;exact wp_ret (zdx J L J)
 ·refine wp_skip (H1 _ _ ?_);obtain ⟨r10,h11,h⟩:=h;refine ra 8 (p1 ((zdg h11).tup)) L fun a s L=>?_;obtain ⟨h12,h⟩:=h;refine rA 4 L fun a s L=>?_;refine wp_seq_k fun K13 H13=>rA 1 L fun a s L=>?_;have J15:∀(n14:Int) (a:Act) (s:St),Has N0 96 s0 a s [(1,(Pd.rep (En.slice (En.int .u8)) w_)),(3,(Pd.ptr En.SDesc d_)),(7,(Pd.rep (En.slice (En.int .u8)) r10.1)),(8,(Pd.rep En.bool r10.2)),(9,(Pi n14))]→((z7.j2 d_ w_ r_ r10) n14)→K13 a s.w:=by
   intro n14 a s L h;unfold z7.j2 at h;show K13 a s.w;refine H13 _ _ (wp_seq_k fun K16 H16=>?_);refine rA 1 L fun a s L=>?_;refine wp_block ?_;have J17:∀(a:Act) (s:St),Has N0 96 s0 a s [(7,(Pd.rep (En.slice (En.int .u8)) r10.1)),(8,(Pd.rep En.bool r10.2))]→((z7.j1 r_ r10))→K16 a s.w:=by
    intro a s L h;unfold z7.j1 at h;show K16 a s.w;refine H16 _ _ (rA 7 L fun a s L=>?_);subst h;exact wp_ret (zdx J L J)
   obtain ⟨k19,h⟩:=h;refine lpn (fun k20 a s=>∃(i18:Int),Has N0 96 s0 a s [(1,(Pd.rep (En.slice (En.int .u8)) w_)),(3,(Pd.ptr En.SDesc d_)),(7,(Pd.rep (En.slice (En.int .u8)) r10.1)),(8,(Pd.rep En.bool r10.2)),(9,(Pi n14)),(12,(Pi i18))]∧z7.l1 d_ w_ n14 r_ (z7.j1 r_ r10) k20 i18) k19 ⟨0,L.kk,h⟩ ?_;rintro k20 a s ⟨i18,L,h⟩ KL21 hKL21;unfold z7.l1 at h;refine wp_seq_k fun K22 H22=>rA 3 L fun a s L=>?_;refine cn L h (fun h=>?_) fun h=>?_
   ·refine wp_skip (H22 _ _ ?_);refine wp_seq_k fun K23 H23=>wp_block ?_;obtain ⟨h24,r25,h26,h⟩:=h;refine wp_seq (rdx 6 (p1 (zkc h26)) L fun a s L=>?_);refine es (cn L h (fun h=>?_) fun h=>?_)
    ·refine rA 1 L fun a s L=>?_;subst h;exact wp_ret (zdx J L J)
    ·refine wp_skip (H23 _ _ ?_);obtain ⟨h27,h⟩:=h;refine rg (sA 3 L fun a s L=>?_);refine en' ?_;exact hKL21 a s ⟨(i18+1),L.kk,h⟩
   ·refine wp_exit ?_;exact J17 a s (L.kk) h
  refine cn L h (fun h=>?_) fun h=>?_
  ·refine rA 3 L fun a s L=>?_;refine wp_seq_k fun K28 H28=>?_;obtain ⟨h29,r30,h31,b32,h33,r34,h35,h⟩:=h;refine ra 18 (pp (fun hc_=>(zen (h31 hc_))) (pp h33 (pp (fun hc_=>(zkc (h35 hc_))) trivial))) L fun a s L=>?_;refine cn L h (fun h=>?_) fun h=>?_
   ·refine rA 1 L fun a s L=>?_;subst h;exact wp_ret (zdx J L J)
   ·refine wp_skip (H28 _ _ ?_);obtain ⟨h37,h39,r41,h42,h⟩:=h;refine wp_seq (anS 12 [(1,(Pd.rep (En.slice (En.int .u8)) w_)),(3,(Pd.ptr En.SDesc d_)),(7,(Pd.rep (En.slice (En.int .u8)) r10.1)),(8,(Pd.rep En.bool r10.2)),(9,(Pi (r10.1.length:Int))),(10,(Pd.rep (En.slice (En.int .u8)) r41.1)),(11,(Pd.rep En.bool r41.2))] zdl L (by kernel_rfl) (fun a s L=>?_) fun jz_ s e_ L=>?_)
    ·refine es ?_;obtain ⟨r43,h44,h⟩:=h;refine ra 8 (pp (fun hc_=>(zen (h44 hc_))) trivial) L fun a s L=>?_;refine cn L h (fun h=>?_) fun h=>?_
     ·refine rA 1 L fun a s L=>?_;subst h;exact wp_ret (zdx J L J)
     ·refine wp_skip ?_;exact J15 (r10.1.length:Int) a s (L.kk) h
    ·refine zca 2 64 L (by rfl) (by kernel_rfl) (by kernel_rfl) (by kernel_rfl) (fun _ _ _ _ h=>h) (q:=(Pd.rep (En.slice (En.int .u8)) w_)) (zfe (O 1 J) J J) J J fun a L=>?_;refine zca 4 66 L (by rfl) (by kernel_rfl) (by kernel_rfl) (by kernel_rfl) (fun _ _ _ _ h=>h) (q:=(Pd.rep (En.slice (En.int .u8)) more_)) (zfe (O 2 J) J J) J J fun a L=>?_;refine an2 (i:=0) (j:=1) (by kernel_rfl) (by rfl) (by rfl) ?_ ?_
     ·refine st 62 (zc2 ty24 (O 3 J) J J) J J L fun a s e_ L=>?_;refine ol ?_;refine an1 (i:=1) (by kernel_rfl) (by rfl) ?_;refine st_new (En.int .u8) 63 L Ud.h Tq.h J J J J fun a s g45 hg_ L=>?_;refine ol ?_;refine an1 (i:=3) (by kernel_rfl) (by rfl) ?_;refine zc9 65 L op op Ud.h Tq.h h37 J J J J ka fun a s og46 hg_ L=>?_;refine ol ?_;refine an1 (i:=5) (by kernel_rfl) (by rfl) ?_;refine zc9 67 L op op Ud.h Tq.h h39 J J J J ka fun a s og47 hg_ L=>?_;refine ol ?_;refine an1 (i:=6) (by kernel_rfl) (by rfl) ?_;refine fzl 67 L fun s L=>?_;refine sx 68 (zgs ((zdg h42).tup) (xs:=[.tmp 62,.tmp 67]) (.cons (O 62 J) (.cons (O 67 J) .nil)) J J) L fun a s e_ L=>?_;refine ol ?_;refine zca 7 61 L (by rfl) (by kernel_rfl) (by kernel_rfl) (by kernel_rfl) (fun _ _ _ _ h=>h) (q:=(Pd.tup2 (Pd.rep (En.slice (En.int .u8)) r41.1) (Pd.rep En.bool r41.2))) (zfe (O 68 J) J J) J J fun a L=>?_;refine zca 8 69 L (by rfl) (by kernel_rfl) (by kernel_rfl) (by kernel_rfl) (fun _ _ _ _ h=>h) (q:=(Pd.rep (En.slice (En.int .u8)) r41.1)) (y_ext0 (O 61 J) J J) J J fun a L=>?_;refine zca 9 70 L (by rfl) (by kernel_rfl) (by kernel_rfl) (by kernel_rfl) (fun _ _ _ _ h=>h) (q:=(Pd.rep En.bool r41.2)) (y_ext1 (O 61 J) J J) J J fun a L=>?_;refine an1 (i:=10) (by kernel_rfl) (by rfl) ?_;refine sx 10 (zbd (O 69 J) J J) L fun a s e_ L=>?_;refine ol ?_;refine an1 (i:=11) (by kernel_rfl) (by rfl) ?_;refine sx 11 (zbd (O 70 J) J J) L fun a s e_ L=>?_;refine ol ?_;refine an0 (by kernel_rfl) ?_;exact jz_ a s L.kk
     ·refine st_new (En.int .u8) 63 L Ud.h Tq.h J J J J fun a s g48 hg_ L=>?_;refine ol ?_;refine an2 (i:=0) (j:=3) (by kernel_rfl) (by rfl) (by rfl) ?_ ?_
      ·refine st 62 (zc2 ty24 (O 3 J) J J) J J L fun a s e_ L=>?_;refine ol ?_;refine an1 (i:=3) (by kernel_rfl) (by rfl) ?_;refine zc9 65 L op op Ud.h Tq.h h37 J J J J ka fun a s og49 hg_ L=>?_;refine ol ?_;refine an1 (i:=5) (by kernel_rfl) (by rfl) ?_;refine zc9 67 L op op Ud.h Tq.h h39 J J J J ka fun a s og50 hg_ L=>?_;refine ol ?_;refine an1 (i:=6) (by kernel_rfl) (by rfl) ?_;refine fzl 67 L fun s L=>?_;refine sx 68 (zgs ((zdg h42).tup) (xs:=[.tmp 62,.tmp 67]) (.cons (O 62 J) (.cons (O 67 J) .nil)) J J) L fun a s e_ L=>?_;refine ol ?_;refine zca 7 61 L (by rfl) (by kernel_rfl) (by kernel_rfl) (by kernel_rfl) (fun _ _ _ _ h=>h) (q:=(Pd.tup2 (Pd.rep (En.slice (En.int .u8)) r41.1) (Pd.rep En.bool r41.2))) (zfe (O 68 J) J J) J J fun a L=>?_;refine zca 8 69 L (by rfl) (by kernel_rfl) (by kernel_rfl) (by kernel_rfl) (fun _ _ _ _ h=>h) (q:=(Pd.rep (En.slice (En.int .u8)) r41.1)) (y_ext0 (O 61 J) J J) J J fun a L=>?_;refine zca 9 70 L (by rfl) (by kernel_rfl) (by kernel_rfl) (by kernel_rfl) (fun _ _ _ _ h=>h) (q:=(Pd.rep En.bool r41.2)) (y_ext1 (O 61 J) J J) J J fun a L=>?_;refine an1 (i:=10) (by kernel_rfl) (by rfl) ?_;refine sx 10 (zbd (O 69 J) J J) L fun a s e_ L=>?_;refine ol ?_;refine an1 (i:=11) (by kernel_rfl) (by rfl) ?_;refine sx 11 (zbd (O 70 J) J J) L fun a s e_ L=>?_;refine ol ?_;refine an0 (by kernel_rfl) ?_;exact jz_ a s L.kk
      ·refine zc9 65 L op op Ud.h Tq.h h37 J J J J ka fun a s og51 hg_ L=>?_;refine ol ?_;refine an2 (i:=0) (j:=5) (by kernel_rfl) (by rfl) (by rfl) ?_ ?_
       ·refine st 62 (zc2 ty24 (O 3 J) J J) J J L fun a s e_ L=>?_;refine ol ?_;refine an1 (i:=5) (by kernel_rfl) (by rfl) ?_;refine zc9 67 L op op Ud.h Tq.h h39 J J J J ka fun a s og52 hg_ L=>?_;refine ol ?_;refine an1 (i:=6) (by kernel_rfl) (by rfl) ?_;refine fzl 67 L fun s L=>?_;refine sx 68 (zgs ((zdg h42).tup) (xs:=[.tmp 62,.tmp 67]) (.cons (O 62 J) (.cons (O 67 J) .nil)) J J) L fun a s e_ L=>?_;refine ol ?_;refine zca 7 61 L (by rfl) (by kernel_rfl) (by kernel_rfl) (by kernel_rfl) (fun _ _ _ _ h=>h) (q:=(Pd.tup2 (Pd.rep (En.slice (En.int .u8)) r41.1) (Pd.rep En.bool r41.2))) (zfe (O 68 J) J J) J J fun a L=>?_;refine zca 8 69 L (by rfl) (by kernel_rfl) (by kernel_rfl) (by kernel_rfl) (fun _ _ _ _ h=>h) (q:=(Pd.rep (En.slice (En.int .u8)) r41.1)) (y_ext0 (O 61 J) J J) J J fun a L=>?_;refine zca 9 70 L (by rfl) (by kernel_rfl) (by kernel_rfl) (by kernel_rfl) (fun _ _ _ _ h=>h) (q:=(Pd.rep En.bool r41.2)) (y_ext1 (O 61 J) J J) J J fun a L=>?_;refine an1 (i:=10) (by kernel_rfl) (by rfl) ?_;refine sx 10 (zbd (O 69 J) J J) L fun a s e_ L=>?_;refine ol ?_;refine an1 (i:=11) (by kernel_rfl) (by rfl) ?_;refine sx 11 (zbd (O 70 J) J J) L fun a s e_ L=>?_;refine ol ?_;refine an0 (by kernel_rfl) ?_;exact jz_ a s L.kk
       ·refine zc9 67 L op op Ud.h Tq.h h39 J J J J ka fun a s og53 hg_ L=>?_;refine ol ?_;refine an1 (i:=0) (by kernel_rfl) (by rfl) ?_;refine sx 62 (zc2 ty24 (O 3 J) J J) L fun a s e_ L=>?_;refine ol ?_;refine an1 (i:=6) (by kernel_rfl) (by rfl) ?_;refine fzl 67 L fun s L=>?_;refine sx 68 (zgs ((zdg h42).tup) (xs:=[.tmp 62,.tmp 67]) (.cons (O 62 J) (.cons (O 67 J) .nil)) J J) L fun a s e_ L=>?_;refine ol ?_;refine zca 7 61 L (by rfl) (by kernel_rfl) (by kernel_rfl) (by kernel_rfl) (fun _ _ _ _ h=>h) (q:=(Pd.tup2 (Pd.rep (En.slice (En.int .u8)) r41.1) (Pd.rep En.bool r41.2))) (zfe (O 68 J) J J) J J fun a L=>?_;refine zca 8 69 L (by rfl) (by kernel_rfl) (by kernel_rfl) (by kernel_rfl) (fun _ _ _ _ h=>h) (q:=(Pd.rep (En.slice (En.int .u8)) r41.1)) (y_ext0 (O 61 J) J J) J J fun a L=>?_;refine zca 9 70 L (by rfl) (by kernel_rfl) (by kernel_rfl) (by kernel_rfl) (fun _ _ _ _ h=>h) (q:=(Pd.rep En.bool r41.2)) (y_ext1 (O 61 J) J J) J J fun a L=>?_;refine an1 (i:=10) (by kernel_rfl) (by rfl) ?_;refine sx 10 (zbd (O 69 J) J J) L fun a s e_ L=>?_;refine ol ?_;refine an1 (i:=11) (by kernel_rfl) (by rfl) ?_;refine sx 11 (zbd (O 70 J) J J) L fun a s e_ L=>?_;refine ol ?_;refine an0 (by kernel_rfl) ?_;exact jz_ a s L.kk
  ·refine wp_skip ?_;exact J15 ((w_.length:Int)+1) a s (L.kk) h
def Lv (d:List SNode) (s:List SItem) (l:List (List SItem)):Prop:=∃h,lv d h s=some l
theorem Lv.uniq {d:List SNode} {s:List SItem} {l m:List (List SItem)} (h:Lv d s l) (k:Lv d s m):l=m:=by
 obtain ⟨a,ha⟩:=h;obtain ⟨b,hb⟩:=k;have h1:=zin (Nat.le_max_left a b) ha;have h2:=zin (Nat.le_max_right a b) hb;rw [h1] at h2;exact Option.some.inj h2
theorem Lv.ready {d:List SNode} {s:List SItem} (h:rdy d s=true):Lv d s [s]:=⟨1,by simp [lv,h]⟩
theorem lv_list {d:List SNode}:∀(ss:List (List SItem)) (f:List SItem→List (List SItem)),(∀t∈ss,Lv d t (f t))→∃h,ss.mapM (lv d h)=some (ss.map f)
 | [],_,_=>⟨0,rfl⟩
 | s::ss,f,hs=>by
  obtain ⟨h1,e1⟩:=hs s (by simp);obtain ⟨h2,e2⟩:=lv_list ss f fun t ht=>hs t (by simp [ht]);refine ⟨max h1 h2, ?_⟩;rw [List.mapM_cons,zin (Nat.le_max_left h1 h2) e1,znq (fun a b hb=>zin (Nat.le_max_right h1 h2) hb) _ _ e2];rfl
theorem Lv.open {d:List SNode} {s:List SItem} (hr:rdy d s=false) (f:List SItem→List (List SItem)) (h:∀t∈opn d s,Lv d t (f t)):Lv d s ((opn d s).map f).flatten:=by
 obtain ⟨k,e⟩:=lv_list _ f h;exact ⟨k+1,by unfold lv;rw [if_neg (by rw [hr];simp),e];rfl⟩
def PM (d:List SNode):Nat→Int→List (List SItem) × Nat
 | 0,_=>([],0)
 | k+1,i=>match at? d i with
  | none=>([],0)
  | some n=>
   if n.1=1 then ([],1)
   else if n.1=3 then ([[(3,i,0,0)]],0)
   else if n.1=4 then ((PM d k n.2.1).1.map (·++[(1,n.2.2.1,0,0)])++(List.replicate (PM d k n.2.1).2 (PM d k n.2.2.1).1).flatten,(PM d k n.2.1).2*(PM d k n.2.2.1).2)
   else if n.1=5 then ((PM d k n.2.1).1++(PM d k n.2.2.1).1,(PM d k n.2.1).2+(PM d k n.2.2.1).2)
   else if n.1=6 then ((PM d k n.2.1).1.map (·++[(1,i,0,0)]),1)
   else if n.1=7 then (if 0<n.2.2.2.2.1 then (PM d k n.2.1).1.map (·++[(2,i,max (n.2.2.2.1-1) 0,n.2.2.2.2.1-1)]) else [],if n.2.2.2.1=0 then 1 else 0)
   else ([[(1,i,0,0)]],0)
theorem ziz {d:List SNode} (hd:ROk d):∀(k k':Nat) (i:Int),i<(k:Int)→i<(k':Int)→PM d k i=PM d k' i
 | 0,k',i,h,h'=>by
  cases k' with
  | zero=>rfl
  | succ k'=>
   have:at? d i=none:=by
    unfold at?;rw [if_neg (by omega)]
   simp [PM,this]
 | k+1,0,i,h,h'=>by
  have:at? d i=none:=by
   unfold at?;rw [if_neg (by omega)]
  simp [PM,this]
 | k+1,k'+1,i,h,h'=>by
  cases hn:at? d i with
  | none=>simp only [PM,hn]
  | some n=>
   simp only [PM,hn]
   by_cases h1:n.1=1
   ·simp [h1]
   ·by_cases h3:n.1=3
    ·simp [h3]
    ·by_cases h4:n.1=4
     ·obtain ⟨⟨a,b⟩,c,e⟩:=hd.two _ n hn (.inl h4);rw [ziz hd k k' n.2.1 (by omega) (by omega),ziz hd k k' n.2.2.1 (by omega) (by omega)]
     ·by_cases h5:n.1=5
      ·obtain ⟨⟨a,b⟩,c,e⟩:=hd.two _ n hn (.inr h5);rw [ziz hd k k' n.2.1 (by omega) (by omega),ziz hd k k' n.2.2.1 (by omega) (by omega)]
      ·by_cases h6:n.1=6
       ·obtain ⟨a,b⟩:=hd.one _ n hn (.inl h6);rw [ziz hd k k' n.2.1 (by omega) (by omega)];simp [h6]
       ·by_cases h7:n.1=7
        ·obtain ⟨a,b⟩:=hd.one _ n hn (.inr (.inl h7));rw [ziz hd k k' n.2.1 (by omega) (by omega)];simp [h7]
        ·simp [h1,h3,h4,h5,h6,h7]
def pm (d:List SNode) (i:Int):List (List SItem):=(PM d d.length i).1
def nw (d:List SNode) (i:Int):Nat:=(PM d d.length i).2
theorem zjh {d:List SNode} (hd:ROk d) {i:Int} {n:SNode} (hn:at? d i=some n):PM d d.length i =
  (if n.1=1 then ([],1)
   else if n.1=3 then ([[(3,i,0,0)]],0)
   else if n.1=4 then ((pm d n.2.1).map (·++[(1,n.2.2.1,0,0)])++(List.replicate (nw d n.2.1) (pm d n.2.2.1)).flatten,nw d n.2.1*nw d n.2.2.1)
   else if n.1=5 then (pm d n.2.1++pm d n.2.2.1,nw d n.2.1+nw d n.2.2.1)
   else if n.1=6 then ((pm d n.2.1).map (·++[(1,i,0,0)]),1)
   else if n.1=7 then (if 0<n.2.2.2.2.1 then (pm d n.2.1).map (·++[(2,i,max (n.2.2.2.1-1) 0,n.2.2.2.2.1-1)]) else [],if n.2.2.2.1=0 then 1 else 0)
   else ([[(1,i,0,0)]],0)):=by
 obtain ⟨hb0,hb1⟩:=zbv hn;rw [ziz hd d.length (d.length+1) i hb1 (by omega)];simp only [PM,hn,pm,nw]
theorem zjs {d:List SNode} (hd:ROk d):∀(k:Nat) (i:Int) (n:SNode),i<(k:Int)→at? d i=some n→(nw d i≠0↔nz d i=true)
 | 0,i,n,hi,hn=>by have:=zbv hn;omega
 | k+1,i,n,hi,hn=>by
  have e:=zjh hd hn;have en:nw d i=(PM d d.length i).2:=rfl;rw [en,e,nz_at hd hn]
  by_cases h1:n.1=1
  ·simp [h1]
  ·by_cases h3:n.1=3
   ·simp [h3]
   ·by_cases h4:n.1=4
    ·obtain ⟨⟨a,b⟩,c,e⟩:=hd.two _ n hn (.inl h4);obtain ⟨m1,hm1⟩:=zdq hn a b;obtain ⟨m2,hm2⟩:=zdq hn c e;have i1:=zjs hd k _ m1 (by omega) hm1;have i2:=zjs hd k _ m2 (by omega) hm2;rw [if_neg h1,if_neg h3,if_pos h4,if_neg h1,if_pos h4,Bool.and_eq_true,← i1,← i2];simp only;rw [Nat.mul_ne_zero_iff]
    ·by_cases h5:n.1=5
     ·obtain ⟨⟨a,b⟩,c,e⟩:=hd.two _ n hn (.inr h5);obtain ⟨m1,hm1⟩:=zdq hn a b;obtain ⟨m2,hm2⟩:=zdq hn c e;have i1:=zjs hd k _ m1 (by omega) hm1;have i2:=zjs hd k _ m2 (by omega) hm2;rw [if_neg h1,if_neg h3,if_neg h4,if_pos h5,if_neg h1,if_neg h4,if_pos h5,Bool.or_eq_true,← i1,← i2];simp only;omega
     ·by_cases h6:n.1=6
      ·simp [h6]
      ·by_cases h7:n.1=7
       ·by_cases h0:n.2.2.2.1=0 <;> simp [h7,h0]
       ·simp [h1,h3,h4,h5,h6,h7]
def pmI (d:List SNode) (x:SItem):List (List SItem):=
 if x.1=1 then pm d x.2.1
 else if x.1=2 then (match at? d x.2.1 with | some n=>if 0<x.2.2.2 then (pm d n.2.1).map (·++[(2,x.2.1,max (x.2.2.1-1) 0,x.2.2.2-1)]) else [] | none=>[])
 else if x.1=5 then [] else [[x]]
def nwI (d:List SNode) (x:SItem):Nat:=
 if x.1=1 then nw d x.2.1 else if x.1=2 then (if x.2.2.1=0 then 1 else 0) else if x.1=5 then (if x.2.2.1=0 then 1 else 0) else 0
abbrev Told (d:List SNode) (P:List (List SItem)) (m:Nat) (rest:List SItem) (s:List SItem):Prop:=
 ∀lr,(m≠0→Lv d rest lr)→∃l,Lv d s l∧l.Perm (P.map (·++rest)++(List.replicate m lr).flatten)
theorem perm_flat {α:Type} {a b:List α} (h:a.Perm b) (m:Nat):(List.replicate m a).flatten.Perm (List.replicate m b).flatten:=by
 induction m with
 | zero=>exact .refl _
 | succ m ih=>
  rw [List.replicate_succ,List.replicate_succ,List.flatten_cons,List.flatten_cons];exact h.append ih
theorem rep_split {α:Type} (m:Nat) (a b:List α):(List.replicate m (a++b)).flatten.Perm ((List.replicate m a).flatten++(List.replicate m b).flatten):=by
 induction m with
 | zero=>exact .refl _
 | succ m ih=>
  simp only [List.replicate_succ,List.flatten_cons];refine (ih.append_left (a++b)).trans ?_;rw [List.append_assoc,List.append_assoc];refine List.Perm.append_left a ?_;rw [← List.append_assoc,← List.append_assoc];exact (List.perm_append_comm).append_right _
theorem rep_rep {α:Type} (m k:Nat) (a:List α):(List.replicate m (List.replicate k a).flatten).flatten=(List.replicate (m*k) a).flatten:=by
 induction m with
 | zero=>simp
 | succ m ih=>rw [List.replicate_succ,List.flatten_cons,ih,Nat.succ_mul,Nat.add_comm,← List.replicate_append_replicate,List.flatten_append]
theorem rep_map {α β:Type} (f:α→β) (m:Nat) (a:List α):((List.replicate m a).flatten).map f=(List.replicate m (a.map f)).flatten:=by
 rw [List.map_flatten,List.map_replicate]
theorem told_seq {d:List SNode} {P1 P2:List (List SItem)} {m1 m2:Nat} {b:SItem} {rest s:List SItem} (h1:Told d P1 m1 (b::rest) s) (h2:Told d P2 m2 rest (b::rest)):Told d (P1.map (·++[b])++(List.replicate m1 P2).flatten) (m1*m2) rest s:=by
 intro lr hlr;have key:∃lb,(m1≠0→Lv d (b::rest) lb∧lb.Perm (P2.map (·++rest)++(List.replicate m2 lr).flatten)):=by
  by_cases h:m1=0
  ·exact ⟨[],fun k=>absurd h k⟩
  ·obtain ⟨lb,k1,k2⟩:=h2 lr fun k=>hlr (Nat.mul_ne_zero h k);exact ⟨lb,fun _=>⟨k1,k2⟩⟩
 obtain ⟨lb,hlb⟩:=key;obtain ⟨l,k1,k2⟩:=h1 lb fun k=>(hlb k).1;refine ⟨l,k1,k2.trans ?_⟩;have e1:P1.map (·++b::rest)=(P1.map (·++[b])).map (·++rest):=by
  rw [List.map_map];apply List.map_congr_left;intro p _;simp
 rw [e1,List.map_append,List.append_assoc];refine List.Perm.append_left _ ?_
 by_cases h:m1=0
 ·subst h;simp
 ·refine (perm_flat (hlb h).2 m1).trans ?_;refine (rep_split m1 _ _).trans ?_;rw [rep_map,rep_rep]
theorem znr {d:List SNode} {s t:List SItem} (hr:rdy d s=false) (ho:opn d s=[t]) {l:List (List SItem)} (h:Lv d t l):Lv d s l:=by
 have:=Lv.open hr (fun _=>l) (fun x hx=>by rw [ho] at hx;rw [List.mem_singleton.1 hx];exact h);rw [ho] at this;simpa using this
theorem lv_two {d:List SNode} {s t u:List SItem} (hr:rdy d s=false) (ho:opn d s=[t,u]) {l m:List (List SItem)} (h:Lv d t l) (k:Lv d u m):Lv d s (l++m):=by
 by_cases htu:t=u
 ·subst htu;rw [k.uniq h];have:=Lv.open hr (fun _=>l) (fun x hx=>by rw [ho] at hx;simp at hx;rw [hx];exact h);rw [ho] at this;simpa using this
 ·have:=Lv.open hr (fun x=>if x=t then l else m) (fun x hx=>by
   rw [ho] at hx;simp only [List.mem_cons,List.not_mem_nil,or_false] at hx;rcases hx with rfl | rfl
   ·simp;exact h
   ·simp [Ne.symm htu];exact k)
  rw [ho] at this;simpa [Ne.symm htu] using this
theorem lv_none {d:List SNode} {s:List SItem} (hr:rdy d s=false) (ho:opn d s=[]):Lv d s []:=by
 have:=Lv.open hr (fun _=>[]) (fun x hx=>by rw [ho] at hx;cases hx);rw [ho] at this;simpa using this
theorem told_rep {d:List SNode} (hd:ROk d) {i:Int} {n:SNode} (hn:at? d i=some n) (h7:n.1=7) (hA:∀rest,Told d (pm d n.2.1) 0 rest ((1,n.2.1,0,0)::rest)) (lo hi:Int) (rest:List SItem):
  Told d (if 0<hi then (pm d n.2.1).map (·++[(2,i,max (lo-1) 0,hi-1)]) else []) (if lo=0 then 1 else 0) rest ((2,i,lo,hi)::rest):=by
 intro lr hlr;have hr:rdy d ((2,i,lo,hi)::rest)=false:=by simp [rdy]
 have ho:opn d ((2,i,lo,hi)::rest)=(if lo=0 then [rest] else [])++(if 0<hi then [(1,n.2.1,0,0)::(2,i,max (lo-1) 0,hi-1)::rest] else []):=by
  simp only [opn,hn];rw [if_neg (by decide),if_pos trivial]
 obtain ⟨la,ha,hpa⟩:=hA ((2,i,max (lo-1) 0,hi-1)::rest) [] (fun h=>absurd rfl h);have e1:(pm d n.2.1).map (·++(2,i,max (lo-1) 0,hi-1)::rest)=((pm d n.2.1).map (·++[(2,i,max (lo-1) 0,hi-1)])).map (·++rest):=by
  rw [List.map_map];apply List.map_congr_left;intro p _;simp
 rw [e1] at hpa;simp only [List.replicate_zero,List.flatten_nil,List.append_nil] at hpa
 by_cases h0:lo=0
 ·have hL:=hlr (by simp [h0])
  by_cases h1:0<hi
  ·refine ⟨_,lv_two hr (by rw [ho,if_pos h0,if_pos h1];rfl) hL ha, ?_⟩;rw [if_pos h1,if_pos h0];simp only [List.replicate_one,List.flatten_cons,List.flatten_nil,List.append_nil];exact (List.perm_append_comm).trans (hpa.append_right _)
  ·refine ⟨_,znr hr (by rw [ho,if_pos h0,if_neg h1];rfl) hL, ?_⟩;rw [if_neg h1,if_pos h0];simp
 ·by_cases h1:0<hi
  ·refine ⟨_,znr hr (by rw [ho,if_neg h0,if_pos h1];rfl) ha, ?_⟩;rw [if_pos h1,if_neg h0];simpa using hpa
  ·refine ⟨_,lv_none hr (by rw [ho,if_neg h0,if_neg h1];rfl), ?_⟩;rw [if_neg h1,if_neg h0];simp
theorem zmv {d:List SNode} (hd:ROk d):∀(k:Nat) (i:Int) (n:SNode),i<(k:Int)→at? d i=some n→∀rest,Told d (pm d i) (nw d i) rest ((1,i,0,0)::rest)
 | 0,i,n,hi,hn,_=>by have:=zbv hn;omega
 | k+1,i,n,hi,hn,rest=>by
  have ih:=zmv hd k;have e:=zjh hd hn;have ep:pm d i=(PM d d.length i).1:=rfl;have en:nw d i=(PM d d.length i).2:=rfl;rw [ep,en,e];have hk9:=hd.kind _ n hn;have rd0:(n.1≠2∧n.1≠8∧n.1≠9)→rdy d ((1,i,0,0)::rest)=false:=fun h=>by
   simp only [rdy,hn];simp [h.1,h.2.1,h.2.2]
  have op0:opn d ((1,i,0,0)::rest)=(if n.1=1 then [rest] else if n.1=3 then [(3,i,0,0)::rest] else if n.1=4 then [(1,n.2.1,0,0)::(1,n.2.2.1,0,0)::rest] else if n.1=5 then [(1,n.2.1,0,0)::rest,(1,n.2.2.1,0,0)::rest]
    else if n.1=6 then [rest,(1,n.2.1,0,0)::(1,i,0,0)::rest] else [(2,i,n.2.2.2.1,n.2.2.2.2.1)::rest]):=by
   simp only [opn,hn];rw [if_neg (by decide),if_neg (by decide)]
  have z0:∀a:Int,0≤a→a<i→nz d a=false→nw d a=0:=fun a h0 h1 hz=>by
   obtain ⟨m,hm⟩:=zdq hn h0 h1;rcases Nat.eq_zero_or_pos (nw d a) with h | h
   ·exact h
   ·have:=(zjs hd k a m (by omega) hm).1 (by omega);rw [hz] at this;cases this
  by_cases h1:n.1=1
  ·rw [if_pos h1];intro lr hlr;refine ⟨lr,znr (rd0 (by omega)) (by rw [op0,if_pos h1]) (hlr (by simp)),by simp⟩
  ·rw [if_neg h1] at op0 ⊢
   by_cases h3:n.1=3
   ·rw [if_pos h3] at op0 ⊢;intro lr hlr;exact ⟨_,znr (rd0 (by omega)) op0 (Lv.ready (by simp [rdy])),by simp⟩
   ·rw [if_neg h3] at op0 ⊢
    by_cases h4:n.1=4
    ·rw [if_pos h4] at op0 ⊢;obtain ⟨⟨a,b⟩,c,e⟩:=hd.two _ n hn (.inl h4);obtain ⟨m1,hm1⟩:=zdq hn a b;obtain ⟨m2,hm2⟩:=zdq hn c e;have:=told_seq (ih _ m1 (by omega) hm1 ((1,n.2.2.1,0,0)::rest)) (ih _ m2 (by omega) hm2 rest);intro lr hlr;obtain ⟨l,k1,k2⟩:=this lr hlr;exact ⟨l,znr (rd0 (by omega)) op0 k1,k2⟩
    ·rw [if_neg h4] at op0 ⊢
     by_cases h5:n.1=5
     ·rw [if_pos h5] at op0 ⊢;obtain ⟨⟨a,b⟩,c,e⟩:=hd.two _ n hn (.inr h5);obtain ⟨m1,hm1⟩:=zdq hn a b;obtain ⟨m2,hm2⟩:=zdq hn c e;intro lr hlr;simp only at hlr;obtain ⟨l1,k1,k2⟩:=ih _ m1 (by omega) hm1 rest lr fun h=>hlr (by omega);obtain ⟨l2,k3,k4⟩:=ih _ m2 (by omega) hm2 rest lr fun h=>hlr (by omega);refine ⟨_,lv_two (rd0 (by omega)) op0 k1 k3,(k2.append k4).trans ?_⟩;rw [List.map_append,← List.replicate_append_replicate,List.flatten_append,List.append_assoc,List.append_assoc];refine List.Perm.append_left _ ?_;rw [← List.append_assoc,← List.append_assoc];exact (List.perm_append_comm).append_right _
     ·rw [if_neg h5] at op0 ⊢
      by_cases h6:n.1=6
      ·rw [if_pos h6] at op0 ⊢;obtain ⟨a,b⟩:=hd.one _ n hn (.inl h6);obtain ⟨m1,hm1⟩:=zdq hn a b;have hz:=z0 _ a b (hd.nn _ n hn (.inl h6));intro lr hlr;have hA:=ih _ m1 (by omega) hm1 ((1,i,0,0)::rest) [] (fun h=>absurd hz h);obtain ⟨l1,k1,k2⟩:=hA;refine ⟨_,lv_two (rd0 (by omega)) op0 (hlr (by simp)) k1, ?_⟩;rw [hz] at k2;have e1:(pm d n.2.1).map (·++(1,i,0,0)::rest)=((pm d n.2.1).map (·++[(1,i,0,0)])).map (·++rest):=by
        rw [List.map_map];apply List.map_congr_left;intro p _;simp
       rw [e1] at k2;simp only [List.replicate_zero,List.flatten_nil,List.append_nil] at k2;simp only [List.replicate_one,List.flatten_cons,List.flatten_nil,List.append_nil];exact (List.perm_append_comm).trans (k2.append_right _)
      ·rw [if_neg h6] at op0 ⊢
       by_cases h7:n.1=7
       ·rw [if_pos h7];obtain ⟨a,b⟩:=hd.one _ n hn (.inr (.inl h7));obtain ⟨m1,hm1⟩:=zdq hn a b;have hz:=z0 _ a b (hd.nn _ n hn (.inr h7));have:=told_rep hd hn h7 (fun rest=>by have:=ih _ m1 (by omega) hm1 rest;rw [hz] at this;exact this) n.2.2.2.1 n.2.2.2.2.1 rest;intro lr hlr;obtain ⟨l,k1,k2⟩:=this lr hlr;exact ⟨l,znr (rd0 (by omega)) op0 k1,k2⟩
       ·rw [if_neg h7];intro lr hlr;refine ⟨_,Lv.ready ?_,by simp⟩;simp only [rdy,hn];have:n.1=2∨n.1=8∨n.1=9:=by omega
        rcases this with h | h | h <;> simp [h]
theorem told_item {d:List SNode} (hd:ROk d) {x:SItem} (hx:ze0 d x=true) (rest:List SItem):Told d (pmI d x) (nwI d x) rest (x::rest):=by
 by_cases h5:x.1=5
 ·have e1:pmI d x=[]:=by simp [pmI,h5]
  have e2:nwI d x=if x.2.2.1=0 then 1 else 0:=by simp [nwI,h5]
  rw [e1,e2];intro lr hlr;have hr:rdy d (x::rest)=false:=by simp [rdy,h5]
  by_cases h0:x.2.2.1=0
  ·rw [if_pos h0] at hlr ⊢;refine ⟨lr,znr hr (by simp [opn,h5,h0]) (hlr (by simp)),by simp⟩
  ·rw [if_neg h0];exact ⟨_,lv_none hr (by simp [opn,h5,h0]),by simp⟩
 ·obtain ⟨n,hn,hk⟩:=zfw hx h5;rcases hk with h1 | ⟨h2,h7⟩ | ⟨h3,_⟩ | ⟨h4,_⟩
  ·have e:x=(1,x.2.1,0,0):=by
    unfold ze0 at hx;rw [if_neg h5,hn] at hx;simp [h1] at hx;obtain ⟨a,b,c,e⟩:=x;simp only at h1 hx;rw [h1,hx.1,hx.2]
   have e1:pmI d x=pm d x.2.1:=by simp [pmI,h1]
   have e2:nwI d x=nw d x.2.1:=by simp [nwI,h1]
   have:=zbv hn;rw [e1,e2];have ht:=zmv hd d.length _ n (by omega) hn rest;rw [← e] at ht;exact ht
  ·have e1:pmI d x=if 0<x.2.2.2 then (pm d n.2.1).map (·++[(2,x.2.1,max (x.2.2.1-1) 0,x.2.2.2-1)]) else []:=by simp [pmI,h2,hn]
   have e2:nwI d x=if x.2.2.1=0 then 1 else 0:=by simp [nwI,h2]
   rw [e1,e2];obtain ⟨a,b⟩:=hd.one _ n hn (.inr (.inl h7));obtain ⟨m1,hm1⟩:=zdq hn a b;have hb:=zbv hn;have hz:nw d n.2.1=0:=by
    rcases Nat.eq_zero_or_pos (nw d n.2.1) with h | h
    ·exact h
    ·have:=(zjs hd d.length _ m1 (by omega) hm1).1 (by omega);rw [hd.nn _ n hn (.inr h7)] at this;cases this
   have:=told_rep hd hn h7 (fun rest=>by have:=zmv hd d.length _ m1 (by omega) hm1 rest;rw [hz] at this;exact this) x.2.2.1 x.2.2.2 rest;obtain ⟨xk,xi,xl,xh⟩:=x;simp only at h2;subst h2;exact this
  ·have e1:pmI d x=[[x]]:=by simp [pmI,h3]
   have e2:nwI d x=0:=by simp [nwI,h3]
   rw [e1,e2];intro lr _;exact ⟨_,Lv.ready (by simp [rdy,h3]),by simp⟩
  ·have e1:pmI d x=[[x]]:=by simp [pmI,h4]
   have e2:nwI d x=0:=by simp [nwI,h4]
   rw [e1,e2];intro lr _;exact ⟨_,Lv.ready (by simp [rdy,h4]),by simp⟩
def hds (d:List SNode):List SItem→List (List SItem)
 | []=>[[]]
 | x::rest=>(pmI d x).map (·++rest)++(List.replicate (nwI d x) (hds d rest)).flatten
theorem hds_lv {d:List SNode} (hd:ROk d):∀(s:List SItem),zd2 d s=true→∃l,Lv d s l∧l.Perm (hds d s)
 | [],_=>⟨[[]],Lv.ready rfl,.refl _⟩
 | x::rest,hf=>by
  obtain ⟨h1,h2⟩:=zdn hf;obtain ⟨lr,k1,k2⟩:=hds_lv hd rest h2;obtain ⟨l,k3,k4⟩:=told_item hd h1 rest lr fun _=>k1;exact ⟨l,k3,k4.trans (List.Perm.append_left _ (perm_flat k2 _))⟩
theorem exl {ρ:Type} {γ:Sort _} {P:γ→ρ→Prop} (c:γ) (h:∃r,P c r):∃r,∃c,P c r:=let ⟨r,h⟩:=h;⟨r,c,h⟩
theorem zl2 {ρ:Type} {A:Prop} {B:ρ→Prop} (a:A) (h:∃r,B r):∃r,A∧B r:=let ⟨r,h⟩:=h;⟨r,a,h⟩
theorem pick {ρ:Type} [Inhabited ρ] {b:Bool} {X Y:ρ→Prop} (h1:b=true→∃r,X r) (h2:b=false→∃r,Y r):∃r,(b=true→X r)∧(b=false→Y r):=by
 cases b
 ·obtain ⟨r,h⟩:=h2 rfl;exact ⟨r,(fun h=>by cases h),fun _=>h⟩
 ·obtain ⟨r,h⟩:=h1 rfl;exact ⟨r,fun _=>h,(fun h=>by cases h)⟩
def sumT (l:List SNode):Nat:=(l.map fun n=>n.2.2.2.2.2.2.length).sum
theorem sumT_le {l:List SNode} (h:∀n∈l,n.2.2.2.2.2.2.length≤140737488351232):sumT l≤l.length*140737488351232:=by
 induction l with
 | nil=>simp [sumT]
 | cons x l ih=>
  have h1:=h x (by simp);have h2:=ih fun n hn=>h n (by simp [hn]);simp only [sumT,List.map_cons,List.sum_cons,List.length_cons] at h2 ⊢;omega
theorem few_ex {d:List SNode} (ht:∀n∈d,n.2.2.2.2.2.2.length≤140737488351232):∃r,zcx d r∧(r=true→d.length≤100):=by
 refine ⟨decide ((d.length:Int)≤100)&&decide (((sumT (d.take (min d.length 200)):Nat):Int)≤2000), ?_,fun h=>?_⟩
 ·refine zhe (P:=fun k (s:Int) v=>zcx.l1 d _ k s v) (min d.length 200) (fun i s=>s=((sumT (d.take i):Nat):Int)) ?_ ?_ _ (by simp [sumT])
  ·rintro i s hi rfl;have hd:i<d.length:=by omega
   have h1:=sumT_le (l:=d.take i) fun n hn=>ht n (List.mem_of_mem_take hn);have h2:=ht _ (List.getElem_mem hd);have h3:(d.take i).length=i:=by simp;omega
   rw [h3] at h1;have h4:i*140737488351232≤200*140737488351232:=Nat.mul_le_mul_right _ (by omega);have e:sumT (d.take (i+1))=sumT (d.take i)+d[i].2.2.2.2.2.2.length:=by
    unfold sumT;rw [List.take_succ_eq_append_getElem hd,List.map_append,List.sum_append];simp only [List.map_cons,List.map_nil,List.sum_cons,List.sum_nil,Nat.add_zero]
   refine .inr ⟨_,rfl,fun k h=>⟨true,by simp;omega,fun _=>⟨d[i],by rw [zbn];simp [hd],zh (by omega) (by omega),zh (by omega) (by omega), ?_⟩,(fun h=>by cases h)⟩⟩;rw [e] at h;simpa using h
  ·rintro s rfl k;exact ⟨false,by simp;omega,(fun h=>by cases h),fun _=>⟨_,rfl,rfl⟩⟩
 ·simp only [Bool.and_eq_true,decide_eq_true_eq] at h;omega
theorem byte_in {s:Str} {i:Int} (h0:0≤i) (h1:i<(s.length:Int)):∃c,zdv s i=some c:=by
 obtain ⟨x,hx,_⟩:=zob h0 h1;exact ⟨_,by unfold zdv;rw [hx];rfl⟩
theorem in_ex (s:Str) {i:Int} (f t:Int) (h0:0≤i):∃r,zfq s i f t r:=by
 by_cases h1:i<(s.length:Int)
 ·obtain ⟨c,hc⟩:=byte_in h0 h1;exact ⟨_,c,fun _=>hc,_,rfl,c,fun _=>hc,rfl⟩
 ·exact ⟨_,0,fun h=>absurd (dt h) h1,_,rfl,0,fun h=>absurd h (by simp [h1]),rfl⟩
theorem utf8_ex {s:Str} (hl:s.length≤140737488351232):∃r,zbi s r:=by
 have key:∀(m:Nat) (i:Int),0≤i→(s.length:Int)+4-i≤m→i≤(s.length:Int)+4→∃q:Bool × Nat,zbi.l1 s q.1 (zbi.j1 q.1) q.2 i:=by
  intro m
  induction m with
  | zero=>
   intro i h0 h1 h2;exact ⟨(true,1),fun h=>absurd (dt h) (by omega),fun _=>rfl⟩
  | succ m ih=>
   intro i h0 h1 h2
   suffices h:∃q:Bool × Nat,zbi.l1 s q.1 (zbi.j1 q.1) (q.2+1) i by
    obtain ⟨q,hq⟩:=h;exact ⟨(q.1,q.2+1),hq⟩
   unfold zbi.l1;refine pick (fun hd=>?_) (fun hd=>⟨(true,0),rfl⟩);have hlt:=dt hd;obtain ⟨c,hc⟩:=byte_in h0 hlt;obtain ⟨r17,h17⟩:=in_ex s (i:=i+1) 128 191 (by omega);obtain ⟨r21,h21⟩:=in_ex s (i:=i+2) 128 191 (by omega);obtain ⟨r25,h25⟩:=in_ex s (i:=i+3) 128 191 (by omega);obtain ⟨r35,h35⟩:=in_ex s (i:=i+1) 160 191 (by omega);obtain ⟨r44,h44⟩:=in_ex s (i:=i+1) 128 159 (by omega);obtain ⟨r49,h49⟩:=in_ex s (i:=i+1) 144 191 (by omega);obtain ⟨r58,h58⟩:=in_ex s (i:=i+1) 128 143 (by omega);have i1:InR .i64 (i+1):=zh (by omega) (by omega);have i2:InR .i64 (i+2):=zh (by omega) (by omega);have i3:InR .i64 (i+3):=zh (by omega) (by omega);have i4:InR .i64 (i+4):=zh (by omega) (by omega);have g1:=ih (i+1) (by omega) (by omega) (by omega);have g2:=ih (i+2) (by omega) (by omega) (by omega);have g3:=ih (i+3) (by omega) (by omega) (by omega);have g4:=ih (i+4) (by omega) (by omega) (by omega);refine exl c (zl2 hc (zl2 i1 (exl r17 (zl2 h17 (zl2 i2 (exl r21 (zl2 h21 (zl2 i3 (exl r25 (zl2 h25 (pick (fun _=>zl2 i1 g1) (fun _=>?_))))))))))));refine exl _ (zl2 rfl (pick (fun _=>zl2 i2 g2) (fun _=>?_)));refine zl2 (fun _=>i1) (exl r35 (zl2 (fun _=>h35) (pick (fun _=>zl2 i3 g3) (fun _=>?_))));refine exl _ (zl2 rfl (pick (fun _=>zl2 i3 g3) (fun _=>?_)));refine zl2 (fun _=>i1) (exl r44 (zl2 (fun _=>h44) (pick (fun _=>zl2 i3 g3) (fun _=>?_))));refine zl2 (fun _=>i1) (exl r49 (zl2 (fun _=>h49) (pick (fun _=>zl2 i4 g4) (fun _=>?_))));refine exl _ (zl2 rfl (pick (fun _=>zl2 i4 g4) (fun _=>?_)));refine zl2 (fun _=>i1) (exl r58 (zl2 (fun _=>h58) (pick (fun _=>zl2 i4 g4) (fun _=>?_))))
   exact ⟨(false,0),rfl⟩
 obtain ⟨q,hq⟩:=key (s.length+4) 0 (by omega) (by omega) (by omega);exact ⟨q.1,q.2,hq⟩
theorem text_ex {s:Str} (hl:s.length≤140737488351232):∃r,zce s r∧(r=true→s≠[]):=by
 obtain ⟨u,hu⟩:=utf8_ex hl;have tne:∀u:Bool,(decide (0<(s.length:Int))&&u)=true→s≠[]:=fun u h e=>by subst e;simp at h
 have key:∀(m:Nat) (i:Int),0≤i→(s.length:Int)-i≤m→i≤(s.length:Int)→∃q:Bool × Nat,zce.l1 s q.1 (zce.j1 s q.1) q.2 i∧(q.1=true→s≠[]):=by
  intro m
  induction m with
  | zero=>
   intro i h0 h1 h2;exact ⟨(decide (0<(s.length:Int))&&u,1),⟨fun h=>absurd (dt h) (by omega),fun _=>⟨u,fun _=>hu,rfl⟩⟩,tne u⟩
  | succ m ih=>
   intro i h0 h1 h2
   by_cases hlt:i<(s.length:Int)
   ·obtain ⟨c,hc⟩:=byte_in h0 hlt
    by_cases h34:c=34
    ·exact ⟨(false,1),⟨fun _=>⟨c,hc,fun _=>rfl,fun h=>by simp [h34] at h⟩,fun h=>absurd hlt (df h)⟩,(fun h=>by cases h)⟩
    ·obtain ⟨q,hq,hq2⟩:=ih (i+1) (by omega) (by omega) (by omega);exact ⟨(q.1,q.2+1),⟨fun _=>⟨c,hc,fun h=>by simp at h;exact absurd h h34,fun _=>⟨zh (by omega) (by omega),hq⟩⟩,fun h=>absurd hlt (df h)⟩,hq2⟩
   ·exact ⟨(decide (0<(s.length:Int))&&u,1),⟨fun h=>absurd (dt h) hlt,fun _=>⟨u,fun _=>hu,rfl⟩⟩,tne u⟩
 obtain ⟨q,hq,hq2⟩:=key s.length 0 (by omega) (by omega) (by omega);exact ⟨q.1,⟨q.2,hq⟩,hq2⟩
inductive Tr (l:List SNode):Int→Int→Prop
 | leaf {i:Int} {e:SNode} (he:at? l i=some e) (hk:e.1=1∨e.1=2∨e.1=3) (hx:e.1=3→e.2.2.2.2.2.2≠[]) (h0:e.2.1=0∧e.2.2.1=0):Tr l i i
 | one {f i:Int} {e:SNode} (he:at? l i=some e) (hk:e.1=6∨e.1=7∨e.1=8∨e.1=9) (ha:e.2.1=i-1) (hb:e.2.2.1=0) (hr:e.1=7→0≤e.2.2.2.1∧e.2.2.2.1≤e.2.2.2.2.1∧e.2.2.2.2.1≤255) (h:Tr l f (i-1)):Tr l f i
 | two {f p i:Int} {e:SNode} (he:at? l i=some e) (hk:e.1=4∨e.1=5) (ha:e.2.1=p-1) (hb:e.2.2.1=i-1) (h1:Tr l p (i-1)) (h2:Tr l f (p-1)):Tr l f i
theorem Tr.le {l:List SNode} {f i:Int} (h:Tr l f i):0≤f∧f≤i:=by
 induction h with
 | leaf he _ _ _=>exact ⟨(zbv he).1,Int.le_refl _⟩
 | one _ _ _ _ _ _ ih=>omega
 | two _ _ _ _ _ _ i1 i2=>omega
theorem Tr.lt {l:List SNode} {f i:Int} (h:Tr l f i):i<(l.length:Int):=by
 cases h with
 | leaf he _ _ _=>exact (zbv he).2
 | one he _ _ _ _ _=>exact (zbv he).2
 | two he _ _ _ _ _=>exact (zbv he).2
theorem Tr.sub {l:List SNode} {f i:Int} (h:Tr l f i):∀k,f≤k→k≤i→∃g,Tr l g k∧f≤g:=by
 induction h with
 | leaf he hk hx h0=>
  rename_i i e
  intro k h1 h2;obtain rfl:k=i:=by omega
  exact ⟨k,.leaf he hk hx h0,Int.le_refl _⟩
 | one he hk ha hb hr h ih=>
  rename_i f i e
  intro k h1 h2
  by_cases hki:k=i
  ·subst hki;exact ⟨f,.one he hk ha hb hr h,Int.le_refl _⟩
  ·exact ih k h1 (by omega)
 | two he hk ha hb h1 h2 i1 i2=>
  rename_i f p i e
  intro k k1 k2;have l1:=h1.le;have l2:=h2.le
  by_cases hki:k=i
  ·subst hki;exact ⟨f,.two he hk ha hb h1 h2,Int.le_refl _⟩
  ·by_cases hkp:p≤k
   ·obtain ⟨g,g1,g2⟩:=i1 k hkp (by omega);exact ⟨g,g1,by omega⟩
   ·exact i2 k k1 (by omega)
def zlq (l:List SNode) (i r:Int):Prop:=r = -1∨Tr l r i
theorem first_ex {l:List SNode} (hl:l.length≤1000) (ht:∀n∈l,n.2.2.2.2.2.2.length≤140737488351232):∀(m:Nat) (i:Int),i<(m:Int)→-1≤i→i<(l.length:Int)→∃r,zw.n (m+1) l i r∧zlq l i r:=by
 intro m
 induction m with
 | zero=>
  intro i h1 h2 h3;exact ⟨-1,⟨fun _=>rfl,fun h=>absurd (by omega) (df h)⟩,.inl rfl⟩
 | succ m ih=>
  intro i h1 h2 h3
  by_cases h0:i<0
  ·exact ⟨-1,⟨fun _=>rfl,fun h=>absurd h0 (df h)⟩,.inl rfl⟩
  ·obtain ⟨e,he,hm⟩:=zob (xs:=l) (i:=i) (by omega) h3;have i1:InR .i64 (i-1):=zh (by omega) (by omega);obtain ⟨p,hp,hpo⟩:=ih (i-1) (by omega) (by omega) (by omega);have one:∀w:SNode,(e=w→w.2.1=i-1∧(w.1=6∨w.1=7∨w.1=8∨w.1=9)∧(w.1=7→0≤w.2.2.2.1∧w.2.2.2.1≤w.2.2.2.2.1∧w.2.2.2.2.1≤255)∧w.2.2.1=0)→∃r,zw.j1 (zw.n (m+1)) l i r e w∧zlq l i r:=by
    intro w hw
    by_cases hew:e=w
    ·refine ⟨p,⟨i1,p,hp,fun h=>by simp [hew] at h,fun _=>rfl⟩, ?_⟩;rcases hpo with rfl | p0
     ·exact .inl rfl
     ·obtain ⟨w1,w2,w3,w4⟩:=hw hew;exact .inr (.one he (by rw [hew];exact w2) (by rw [hew];exact w1) (by rw [hew];exact w4) (by rw [hew];exact w3) p0)
    ·exact ⟨-1,⟨i1,p,hp,fun _=>rfl,fun h=>by simp at h;exact absurd h hew⟩,.inl rfl⟩
   have two:(e.1=4∨e.1=5)→∃r,zw.j2 (zw.n (m+1)) l i r e true∧zlq l i r:=by
    intro hk
    by_cases hp0:p<0
    ·exact ⟨-1,⟨fun _=>⟨i1,i1,p,hp,fun _=>rfl,fun h=>absurd hp0 (df h)⟩,(fun h=>by cases h)⟩,.inl rfl⟩
    ·have htr:Tr l p (i-1):=by
      rcases hpo with rfl | h
      ·omega
      ·exact h
     have p1:=htr.le;obtain ⟨q,hq,hqo⟩:=ih (p-1) (by omega) (by omega) (by omega);have j1:InR .i64 (p-1):=zh (by omega) (by omega)
     by_cases hew:e=(e.1,p-1,i-1,0,0,(0#256),([]:Str))
     ·refine ⟨q,⟨fun _=>⟨i1,i1,p,hp,fun h=>absurd (dt h) hp0,fun _=>⟨j1,j1,q,hq,false, ?_,(fun h=>by cases h),fun _=>rfl⟩⟩,(fun h=>by cases h)⟩, ?_⟩
      ·have:(e != (e.1,p-1,i-1,0,0,(0#256),([]:Str)))=false:=by rw [← hew];simp
       exact this.symm
      ·rcases hqo with rfl | q0
       ·exact .inl rfl
       ·exact .inr (.two he hk (by rw [hew]) (by rw [hew]) htr q0)
     ·refine ⟨-1,⟨fun _=>⟨i1,i1,p,hp,fun h=>absurd (dt h) hp0,fun _=>⟨j1,j1,q,hq,true, ?_,fun _=>rfl,(fun h=>by cases h)⟩⟩,(fun h=>by cases h)⟩,.inl rfl⟩;exact (bne_iff_ne.2 hew).symm
   have three:(e.1=6∨e.1=7∨e.1=8∨e.1=9)→∃r,zw.j3 (zw.n (m+1)) l i r e true∧zlq l i r:=by
    intro hk
    by_cases h7:e.1=7
    ·by_cases hb:((decide (e.2.2.2.1<0))||(decide (e.2.2.2.2.1<e.2.2.2.1))||(decide (255<e.2.2.2.2.1)))=true
     ·exact ⟨-1,⟨fun _=>⟨i1,fun _=>⟨_,rfl,fun _=>rfl,fun h=>by rw [hb] at h;cases h⟩,fun h=>by simp [h7] at h⟩,(fun h=>by cases h)⟩,.inl rfl⟩
     ·obtain ⟨r,hr1,hr2⟩:=one (e.1,i-1,0,e.2.2.2.1,e.2.2.2.2.1,(0#256),([]:Str)) fun _=>⟨rfl,hk,fun _=>by
       simp only [Bool.or_eq_true,decide_eq_true_eq,not_or] at hb;exact ⟨by show (0:Int)≤e.2.2.2.1;omega,by show e.2.2.2.1≤e.2.2.2.2.1;omega,by show e.2.2.2.2.1≤255;omega⟩,rfl⟩
      exact ⟨r,⟨fun _=>⟨i1,fun _=>⟨_,rfl,fun h=>absurd h hb,fun _=>hr1⟩,fun h=>by simp [h7] at h⟩,(fun h=>by cases h)⟩,hr2⟩
    ·obtain ⟨r,hr1,hr2⟩:=one (e.1,i-1,0,0,0,(0#256),([]:Str)) fun _=>⟨rfl,hk,fun h=>absurd h h7,rfl⟩;exact ⟨r,⟨fun _=>⟨i1,fun h=>by simp at h;exact absurd h h7,fun _=>hr1⟩,(fun h=>by cases h)⟩,hr2⟩
   have ne:∀{a b:Int},a≠b→(a==b)=true→False:=fun h k=>h (eq_of_beq k);have last:∀b:Bool,(b=true↔e.1=9)→e.1≠6→e.1≠7→e.1≠8→∃r,zw.j3 (zw.n (m+1)) l i r e b∧zlq l i r:=by
    intro b hb n6 n7 n8;cases b
    ·have n9:e.1≠9:=fun h=>by have:=hb.2 h;cases this
     by_cases h4:e.1=4
     ·obtain ⟨r,hr1,hr2⟩:=two (.inl h4);exact ⟨r,⟨(fun h=>by cases h),fun _=>⟨fun h=>by rw [h];exact hr1,fun h=>by simp [h4] at h⟩⟩,hr2⟩
     ·by_cases h5:e.1=5
      ·obtain ⟨r,hr1,hr2⟩:=two (.inr h5);have e5:(e.1==5)=true:=by simp [h5]
       exact ⟨r,⟨(fun h=>by cases h),fun _=>⟨fun h=>by simp at h;exact absurd h h4,fun _=>by rw [e5];exact hr1⟩⟩,hr2⟩
      ·have e5:(e.1==5)=false:=by simp [h5]
       exact ⟨-1,⟨(fun h=>by cases h),fun _=>⟨fun h=>by simp at h;exact absurd h h4,fun _=>by rw [e5];exact ⟨(fun h=>by cases h),fun _=>rfl⟩⟩⟩,.inl rfl⟩
    ·exact three (.inr (.inr (.inr (hb.1 rfl))))
   suffices h:∃r,(∃e6:SNode,at? l i=some e6∧_)∧zlq l i r by
    obtain ⟨r,hr,ho⟩:=h;exact ⟨r,⟨fun h=>absurd (dt h) h0,fun _=>hr⟩,ho⟩
   by_cases k1:e.1=1
   ·by_cases hw:e=(e.1,0,0,0,0,(0#256),([]:Str))
    ·exact ⟨i,⟨e,he,fun _=>⟨fun h=>by rw [← hw] at h;simp at h,fun _=>rfl⟩,fun h=>by simp [k1] at h⟩,.inr (.leaf he (.inl k1) (fun h=>by omega) ⟨by rw [hw],by rw [hw]⟩)⟩
    ·exact ⟨-1,⟨e,he,fun _=>⟨fun _=>rfl,fun h=>by simp at h;exact absurd h hw⟩,fun h=>by simp [k1] at h⟩,.inl rfl⟩
   ·by_cases k2:e.1=2
    ·by_cases hw:e=(e.1,0,0,0,0,e.2.2.2.2.2.1,([]:Str))
     ·exact ⟨i,⟨e,he,fun h=>(ne k1 h).elim,fun _=>⟨fun _=>⟨false,by rw [← hw];simp,(fun h=>by cases h),fun _=>rfl⟩,fun h=>by simp [k2] at h⟩⟩,.inr (.leaf he (.inr (.inl k2)) (fun h=>by omega) ⟨by rw [hw],by rw [hw]⟩)⟩
     ·exact ⟨-1,⟨e,he,fun h=>(ne k1 h).elim,fun _=>⟨fun _=>⟨true,(bne_iff_ne.2 hw).symm,fun _=>rfl,(fun h=>by cases h)⟩,fun h=>by simp [k2] at h⟩⟩,.inl rfl⟩
    ·by_cases k3:e.1=3
     ·obtain ⟨t,htx,htn⟩:=text_ex (ht e hm);cases t
      ·exact ⟨-1,⟨e,he,fun h=>(ne k1 h).elim,fun _=>⟨fun h=>(ne k2 h).elim,fun _=>⟨fun _=>⟨false,htx,fun _=>rfl,(fun h=>by cases h)⟩,fun h=>by simp [k3] at h⟩⟩⟩,.inl rfl⟩
      ·by_cases hw:e=(e.1,0,0,0,0,(0#256),e.2.2.2.2.2.2)
       ·exact ⟨i,⟨e,he,fun h=>(ne k1 h).elim,fun _=>⟨fun h=>(ne k2 h).elim,fun _=>⟨fun _=>⟨true,htx,(fun h=>by cases h),fun _=>⟨false,by rw [← hw];simp,(fun h=>by cases h),fun _=>rfl⟩⟩,fun h=>by simp [k3] at h⟩⟩⟩,.inr (.leaf he (.inr (.inr k3)) (fun _=>htn rfl) ⟨by rw [hw],by rw [hw]⟩)⟩
       ·exact ⟨-1,⟨e,he,fun h=>(ne k1 h).elim,fun _=>⟨fun h=>(ne k2 h).elim,fun _=>⟨fun _=>⟨true,htx,(fun h=>by cases h),fun _=>⟨true,(bne_iff_ne.2 hw).symm,fun _=>rfl,(fun h=>by cases h)⟩⟩,fun h=>by simp [k3] at h⟩⟩⟩,.inl rfl⟩
     ·by_cases k6:e.1=6
      ·obtain ⟨r,hr1,hr2⟩:=three (.inl k6);exact ⟨r,⟨e,he,fun h=>(ne k1 h).elim,fun _=>⟨fun h=>(ne k2 h).elim,fun _=>⟨fun h=>(ne k3 h).elim,fun _=>⟨fun h=>by rw [h];exact hr1,fun h=>by simp [k6] at h⟩⟩⟩⟩,hr2⟩
      ·by_cases k7:e.1=7
       ·obtain ⟨r,hr1,hr2⟩:=three (.inr (.inl k7));exact ⟨r,⟨e,he,fun h=>(ne k1 h).elim,fun _=>⟨fun h=>(ne k2 h).elim,fun _=>⟨fun h=>(ne k3 h).elim,fun _=>⟨fun h=>(ne k6 h).elim,fun _=>⟨fun h=>by rw [h];exact hr1,fun h=>by simp [k7] at h⟩⟩⟩⟩⟩,hr2⟩
       ·by_cases k8:e.1=8
        ·obtain ⟨r,hr1,hr2⟩:=three (.inr (.inr (.inl k8)));exact ⟨r,⟨e,he,fun h=>(ne k1 h).elim,fun _=>⟨fun h=>(ne k2 h).elim,fun _=>⟨fun h=>(ne k3 h).elim,fun _=>⟨fun h=>(ne k6 h).elim,fun _=>⟨fun h=>(ne k7 h).elim,fun _=>⟨fun h=>by rw [h];exact hr1,fun h=>by simp [k8] at h⟩⟩⟩⟩⟩⟩,hr2⟩
        ·obtain ⟨r,hr1,hr2⟩:=last (e.1==9) beq_iff_eq k6 k7 k8;exact ⟨r,⟨e,he,fun h=>(ne k1 h).elim,fun _=>⟨fun h=>(ne k2 h).elim,fun _=>⟨fun h=>(ne k3 h).elim,fun _=>⟨fun h=>(ne k6 h).elim,fun _=>⟨fun h=>(ne k7 h).elim,fun _=>⟨fun h=>(ne k8 h).elim,fun _=>hr1⟩⟩⟩⟩⟩⟩,hr2⟩
theorem form_ex {d:List SNode} (hl:d.length≤1000) (ht:∀n∈d,n.2.2.2.2.2.2.length≤140737488351232):∃r,zi4 d r∧(r=true→Tr d 0 ((d.length:Int)-1)):=by
 obtain ⟨r,hr,ho⟩:=first_ex hl ht d.length ((d.length:Int)-1) (by omega) (by omega) (by omega);refine ⟨_,⟨fun _=>zh (by omega) (by omega),r,fun _=>⟨_,hr⟩,rfl⟩,fun h=>?_⟩;simp only [Bool.and_eq_true,decide_eq_true_eq,beq_iff_eq] at h;rcases ho with rfl | h2
 ·omega
 ·rw [h.2] at h2;exact h2
def powW (a:Nat) (t:Nat):Nat:=if t=0 then 1 else if a=0 then 0 else if a=1 then 1 else 2
theorem powW_le (a t:Nat):powW a t≤2:=by
 unfold powW;split
 ·omega
 ·split
  ·omega
  ·split <;> omega
theorem powW_step {a:Nat} (ha:a≤2) (t:Nat):min 2 (powW a t*a)=powW a (t+1):=by
 have:a=0∨a=1∨a=2:=by omega
 unfold powW
 by_cases ht:t=0
 ·subst ht;rcases this with rfl | rfl | rfl <;> simp
 ·rcases this with rfl | rfl | rfl <;> simp [ht]
def sumW (a lo:Nat):Nat→Nat
 | 0=>0
 | m+1=>min 2 (sumW a lo m+powW a (lo+m))
theorem sumW_le (a lo m:Nat):sumW a lo m≤2:=by
 cases m with
 | zero=>simp [sumW]
 | succ m=>simp only [sumW];omega
theorem sumW_zero (a lo:Nat):∀m,sumW a lo m≠0↔∃t,t<m∧powW a (lo+t)≠0
 | 0=>by simp [sumW]
 | m+1=>by
  have ih:=sumW_zero a lo m;simp only [sumW];constructor
  ·intro h
   by_cases h1:sumW a lo m≠0
   ·obtain ⟨t,h2,h3⟩:=ih.1 h1;exact ⟨t,by omega,h3⟩
   ·exact ⟨m,by omega,by omega⟩
  ·rintro ⟨t,h1,h2⟩
   by_cases htm:t=m
   ·subst htm;omega
   ·have:=ih.2 ⟨t,by omega,h2⟩;omega
theorem zng {a t:Nat}:powW a t≠0↔t=0∨a≠0:=by
 unfold powW
 by_cases h1:t=0
 ·simp [h1]
 ·by_cases h2:a=0
  ·simp [h1,h2]
  ·rw [if_neg h1,if_neg h2];split <;> simp [h1,h2]
structure NOk (d:List SNode):Prop where
 two:∀(i:Int) n,at? d i=some n→(n.1=4∨n.1=5)→(0≤n.2.1∧n.2.1<i)∧(0≤n.2.2.1∧n.2.2.1<i)
 one:∀(i:Int) n,at? d i=some n→(n.1=6∨n.1=7∨n.1=8∨n.1=9)→0≤n.2.1∧n.2.1<i
 rep:∀(i:Int) n,at? d i=some n→n.1=7→0≤n.2.2.2.1∧n.2.2.2.1≤n.2.2.2.2.1∧n.2.2.2.2.1≤255
 kind:∀(i:Int) n,at? d i=some n→1≤n.1∧n.1≤9
 ntx:∀(i:Int) n,at? d i=some n→n.1=3→n.2.2.2.2.2.2≠[]
theorem Tr.node {l:List SNode} {f i:Int} (h:Tr l f i) {n:SNode} (hn:at? l i=some n):
  ((n.1=4∨n.1=5)→(0≤n.2.1∧n.2.1<i)∧(0≤n.2.2.1∧n.2.2.1<i))∧((n.1=6∨n.1=7∨n.1=8∨n.1=9)→0≤n.2.1∧n.2.1<i)∧(n.1=7→0≤n.2.2.2.1∧n.2.2.2.1≤n.2.2.2.2.1∧n.2.2.2.2.1≤255)∧(1≤n.1∧n.1≤9)∧(n.1=3→n.2.2.2.2.2.2≠[]):=by
 cases h with
 | leaf he hk hx h0=>
  rw [hn] at he;cases he;exact ⟨fun h=>by omega,fun h=>by omega,fun h=>by omega,by omega,hx⟩
 | one he hk ha hb hr h=>
  rw [hn] at he;cases he;have:=h.le;exact ⟨fun h=>by omega,fun h=>by omega,hr,by omega,fun h=>by omega⟩
 | two he hk ha hb h1 h2=>
  rw [hn] at he;cases he;have:=h1.le;have:=h2.le;exact ⟨fun h=>by omega,fun h=>by omega,fun h=>by omega,by omega,fun h=>by omega⟩
theorem Tr.at {d:List SNode} (h:Tr d 0 ((d.length:Int)-1)) {i:Int} {n:SNode} (hn:at? d i=some n):∃g,Tr d g i:=by
 have hb:=zbv hn;obtain ⟨g,hg,_⟩:=h.sub i hb.1 (by omega);exact ⟨g,hg⟩
theorem Tr.nok {d:List SNode} (h:Tr d 0 ((d.length:Int)-1)):NOk d:=
 ⟨fun i n hn=>let ⟨g,hg⟩:=h.at hn;(hg.node hn).1,fun i n hn=>let ⟨g,hg⟩:=h.at hn;(hg.node hn).2.1,fun i n hn=>let ⟨g,hg⟩:=h.at hn;(hg.node hn).2.2.1,fun i n hn=>let ⟨g,hg⟩:=h.at hn;(hg.node hn).2.2.2.1,fun i n hn=>let ⟨g,hg⟩:=h.at hn;(hg.node hn).2.2.2.2⟩
def WV (d:List SNode):Nat→Int→Nat
 | 0,_=>0
 | k+1,i=>match at? d i with
  | none=>0
  | some n=>
   if n.1=1 then 1
   else if n.1=4 then min 2 (WV d k n.2.1*WV d k n.2.2.1)
   else if n.1=5 then min 2 (WV d k n.2.1+WV d k n.2.2.1)
   else if n.1=6 then (if 0<WV d k n.2.1 then 2 else 1)
   else if n.1=7 then sumW (WV d k n.2.1) n.2.2.2.1.toNat (n.2.2.2.2.1+1-n.2.2.2.1).toNat
   else 0
theorem WV_le (d:List SNode) (k:Nat) (i:Int):WV d k i≤2:=by
 cases k with
 | zero=>simp [WV]
 | succ k=>
  unfold WV;cases at? d i with
  | none=>simp
  | some n=>
   simp only;split
   ·omega
   ·split
    ·omega
    ·split
     ·omega
     ·split
      ·split <;> omega
      ·split
       ·exact sumW_le _ _ _
       ·omega
theorem zlp {d:List SNode} (hd:NOk d):∀(k k':Nat) (i:Int),i<(k:Int)→i<(k':Int)→WV d k i=WV d k' i
 | 0,k',i,h,h'=>by
  have:at? d i=none:=by
   unfold at?;rw [if_neg (by omega)]
  cases k' <;> simp [WV,this]
 | k+1,0,i,h,h'=>by
  have:at? d i=none:=by
   unfold at?;rw [if_neg (by omega)]
  simp [WV,this]
 | k+1,k'+1,i,h,h'=>by
  cases hn:at? d i with
  | none=>simp only [WV,hn]
  | some n=>
   simp only [WV,hn]
   by_cases h4:n.1=4
   ·obtain ⟨⟨a,b⟩,c,e⟩:=hd.two _ n hn (.inl h4);rw [zlp hd k k' n.2.1 (by omega) (by omega),zlp hd k k' n.2.2.1 (by omega) (by omega)]
   ·by_cases h5:n.1=5
    ·obtain ⟨⟨a,b⟩,c,e⟩:=hd.two _ n hn (.inr h5);rw [zlp hd k k' n.2.1 (by omega) (by omega),zlp hd k k' n.2.2.1 (by omega) (by omega)]
    ·by_cases h6:n.1=6∨n.1=7
     ·obtain ⟨a,b⟩:=hd.one _ n hn (by omega);rw [zlp hd k k' n.2.1 (by omega) (by omega)];simp [h4,h5]
     ·simp only [not_or] at h6;simp [h4,h5,h6.1,h6.2]
def wv (d:List SNode) (i:Int):Nat:=WV d d.length i
theorem wv_at {d:List SNode} (hd:NOk d) {i:Int} {n:SNode} (hn:at? d i=some n):wv d i =
  (if n.1=1 then 1
   else if n.1=4 then min 2 (wv d n.2.1*wv d n.2.2.1)
   else if n.1=5 then min 2 (wv d n.2.1+wv d n.2.2.1)
   else if n.1=6 then (if 0<wv d n.2.1 then 2 else 1)
   else if n.1=7 then sumW (wv d n.2.1) n.2.2.2.1.toNat (n.2.2.2.2.1+1-n.2.2.2.1).toNat
   else 0):=by
 obtain ⟨hb0,hb1⟩:=zbv hn;unfold wv;rw [zlp hd d.length (d.length+1) i hb1 (by omega)];simp only [WV,hn]
theorem nz_atN {d:List SNode} (hd:NOk d) {i:Int} {n:SNode} (h:at? d i=some n):nz d i =
  (if n.1=1 then true else if n.1=4 then nz d n.2.1&&nz d n.2.2.1 else if n.1=5 then nz d n.2.1||nz d n.2.2.1 else if n.1=6 then true else if n.1=7 then decide (n.2.2.2.1=0)||nz d n.2.1 else false):=by
 obtain ⟨k,rfl,hk⟩:=zl7 h;have e:=nzL_at hk;have e2:nz d (k:Int)=nzN ((nzL d).take k) n:=by unfold nz;rw [zbn,e];rfl
 rw [e2];unfold nzN
 by_cases h1:n.1=1
 ·simp [h1]
 ·by_cases h4:n.1=4
  ·obtain ⟨⟨a,b⟩,c,e⟩:=hd.two _ n h (.inl h4);rw [if_neg h1,if_pos h4,if_neg h1,if_pos h4,zhd a b,zhd c e];rfl
  ·by_cases h5:n.1=5
   ·obtain ⟨⟨a,b⟩,c,e⟩:=hd.two _ n h (.inr h5);rw [if_neg h1,if_neg h4,if_pos h5,if_neg h1,if_neg h4,if_pos h5,zhd a b,zhd c e];rfl
   ·by_cases h6:n.1=6
    ·simp [h6]
    ·by_cases h7:n.1=7
     ·obtain ⟨a,b⟩:=hd.one _ n h (.inr (.inl h7));rw [if_neg h1,if_neg h4,if_neg h5,if_neg h6,if_pos h7,if_neg h1,if_neg h4,if_neg h5,if_neg h6,if_pos h7,zhd a b];rfl
     ·simp [h1,h4,h5,h6,h7]
theorem wv_nz {d:List SNode} (hd:NOk d):∀(k:Nat) (i:Int) (n:SNode),i<(k:Int)→at? d i=some n→(wv d i≠0↔nz d i=true)
 | 0,i,n,hi,hn=>by have:=zbv hn;omega
 | k+1,i,n,hi,hn=>by
  have ih:=wv_nz hd k;rw [wv_at hd hn,nz_atN hd hn]
  by_cases h1:n.1=1
  ·simp [h1]
  ·by_cases h4:n.1=4
   ·obtain ⟨⟨a,b⟩,c,e⟩:=hd.two _ n hn (.inl h4);obtain ⟨m1,hm1⟩:=zdq hn a b;obtain ⟨m2,hm2⟩:=zdq hn c e;rw [if_neg h1,if_pos h4,if_neg h1,if_pos h4,Bool.and_eq_true,← ih _ m1 (by omega) hm1,← ih _ m2 (by omega) hm2,← Nat.mul_ne_zero_iff];omega
   ·by_cases h5:n.1=5
    ·obtain ⟨⟨a,b⟩,c,e⟩:=hd.two _ n hn (.inr h5);obtain ⟨m1,hm1⟩:=zdq hn a b;obtain ⟨m2,hm2⟩:=zdq hn c e;rw [if_neg h1,if_neg h4,if_pos h5,if_neg h1,if_neg h4,if_pos h5,Bool.or_eq_true,← ih _ m1 (by omega) hm1,← ih _ m2 (by omega) hm2];omega
    ·by_cases h6:n.1=6
     ·simp [h6];split <;> omega
     ·by_cases h7:n.1=7
      ·obtain ⟨a,b⟩:=hd.one _ n hn (.inr (.inl h7));obtain ⟨r0,r1,r2⟩:=hd.rep _ n hn h7;obtain ⟨m1,hm1⟩:=zdq hn a b;rw [if_neg h1,if_neg h4,if_neg h5,if_neg h6,if_pos h7,if_neg h1,if_neg h4,if_neg h5,if_neg h6,if_pos h7,sumW_zero,Bool.or_eq_true,← ih _ m1 (by omega) hm1,decide_eq_true_eq];constructor
       ·rintro ⟨t,h1,h2⟩;rcases zng.1 h2 with h3 | h3
        ·exact .inl (by omega)
        ·exact .inr h3
       ·rintro (h3 | h3)
        ·exact ⟨0,by omega,zng.2 (.inl (by omega))⟩
        ·exact ⟨0,by omega,zng.2 (.inr h3)⟩
      ·simp [h1,h4,h5,h6,h7]
theorem min_mul (x y:Nat):min 2 (min 2 x*min 2 y)=min 2 (x*y):=by
 rcases Nat.lt_or_ge x 2 with h | h
 ·have:x=0∨x=1:=by omega
  rcases this with rfl | rfl <;> simp
 ·rcases Nat.lt_or_ge y 2 with h' | h'
  ·have:y=0∨y=1:=by omega
   rcases this with rfl | rfl <;> simp
  ·have:2*2≤x*y:=Nat.mul_le_mul h h';rw [Nat.min_eq_left h,Nat.min_eq_left h'];omega
theorem ROk.nok {d:List SNode} (h:ROk d):NOk d:=⟨h.two,h.one,h.rep,h.kind,h.ntx⟩
theorem ways_l3 {l:List Int} {a:Nat} (ha:a≤2) {e:SNode} (h1:at? l e.2.1=some (a:Int)) {t:Nat} (ht:t≤255) {Z:Int→Prop} (hZ:Z (powW a t:Int)):
  ∀(m v:Nat),v+m=t→∃k,zl.l3 l e t Z k (powW a v:Int) v
 | 0,v,hv=>by
  obtain rfl:v=t:=by omega
  exact ⟨1,fun h=>absurd (dt h) (by omega),fun _=>hZ⟩
 | m+1,v,hv=>by
  obtain ⟨k,hk⟩:=ways_l3 ha h1 ht hZ m (v+1) (by omega);have e1:(min 2 ((powW a v:Int)*(a:Int)))=(powW a (v+1):Int):=by
   have:=Int.natCast_mul (powW a v) a;rw [← powW_step ha v];omega
  have hle:=powW_le a v;have hle2:powW a v*a≤4:=by
   have:=Nat.mul_le_mul hle ha;omega
  exact ⟨k+1,fun _=>⟨a,h1,zh (by omega) (by rw [← Int.natCast_mul];omega),zh (by omega) (by omega),by rw [e1];exact hk⟩,fun h=>absurd (by omega) (df h)⟩
theorem ways_l2 {l:List Int} {a:Nat} (ha:a≤2) {e:SNode} (h1:at? l e.2.1=some (a:Int)) {lo hi:Nat} (hlo:e.2.2.2.1=lo) (hhi:e.2.2.2.2.1=hi) (hh:hi≤255) {Z:Int→Prop} (hZ:Z (sumW a lo (hi+1-lo):Int)):
  ∀(m j:Nat),j+m=hi+1-lo→∃k,zl.l2 l e Z k (sumW a lo j:Int) ((lo+j:Nat):Int)
 | 0,j,hj=>by
  obtain rfl:j=hi+1-lo:=by omega
  exact ⟨1,fun h=>absurd (dt h) (by omega),fun _=>hZ⟩
 | m+1,j,hj=>by
  obtain ⟨k,hk⟩:=ways_l2 ha h1 hlo hhi hh hZ m (j+1) (by omega);have hs:=sumW_le a lo j;have hp:=powW_le a (lo+j);have e1:(min 2 ((sumW a lo j:Int)+(powW a (lo+j):Int)))=(sumW a lo (j+1):Int):=by simp only [sumW];omega
  obtain ⟨k3,hk3⟩:=ways_l3 ha h1 (t:=lo+j) (by omega) (Z:=zl.j3 (zl.l2 l e Z k) (sumW a lo j:Int) ((lo+j:Nat):Int)) ⟨zh (by omega) (by omega),zh (by omega) (by omega),by
   rw [e1];have:(((lo+j:Nat):Int)+1)=((lo+(j+1):Nat):Int):=by omega
   rw [this];exact hk⟩ (lo+j) 0 (by omega)
  have e0:(powW a 0:Int)=1:=rfl;rw [e0] at hk3;exact ⟨k+1,fun _=>⟨k3,hk3⟩,fun h=>absurd (by omega) (df h)⟩
theorem zqc {d:List SNode} (hl:d.length≤1000) (hd:NOk d) {i:Nat} (h1:i<d.length):zl d (i:Int) (wv d (i:Int):Int):=by
 have hat:∀(k:Nat) (a:Int),0≤a→a<(k:Int)→at? ((List.range k).map fun (j:Nat)=>(wv d (j:Int):Int)) a=some (wv d a:Int):=fun k a h0 h1=>by
  obtain ⟨j,rfl⟩:∃j:Nat,a=(j:Int):=⟨a.toNat,by omega⟩;rw [zbn,List.getElem?_map,List.getElem?_range (by omega)];rfl
 have key:∀(m:Nat) (k:Nat),k+m=i+1→∃f,zl.l1 d (i:Int) (zl.j1 (i:Int) (wv d (i:Int):Int)) f ((List.range k).map fun (j:Nat)=>(wv d (j:Int):Int)) (k:Int):=by
  intro m
  induction m with
  | zero=>
   intro k hk;exact ⟨1,fun h=>absurd (dt h) (by omega),fun _=>⟨_,hat k _ (by omega) (by omega),rfl⟩⟩
  | succ m ih=>
   intro k hk;obtain ⟨f,hf⟩:=ih (k+1) (by omega);obtain ⟨e,he,_⟩:=zob (xs:=d) (i:=(k:Int)) (by omega) (by omega);have hw:=wv_at hd he;have next:∀w:Nat,min 2 w=wv d (k:Int)→zl.j2 (zl.l1 d (i:Int) (zl.j1 (i:Int) (wv d (i:Int):Int)) f) ((List.range k).map fun (j:Nat)=>(wv d (j:Int):Int)) (k:Int) (w:Int):=fun w hw=>by
    refine ⟨by simp;omega,zh (by omega) (by omega), ?_⟩;have e1:(min 2 (w:Int))=(wv d (k:Int):Int):=by rw [← hw];omega
    rw [e1];have e2:((List.range k).map fun (j:Nat)=>(wv d (j:Int):Int))++[(wv d (k:Int):Int)]=(List.range (k+1)).map fun (j:Nat)=>(wv d (j:Int):Int):=by
     rw [List.range_succ,List.map_append];rfl
    rw [e2];exact hf
   have ne:∀{a b:Int},a≠b→(a==b)=true→False:=fun h k=>h (eq_of_beq k);refine ⟨f+1,fun _=>⟨e,he,fun h=>?_,fun k1=>⟨fun h=>?_,fun k4=>⟨fun h=>?_,fun k5=>⟨fun h=>?_,fun k6=>⟨fun h=>?_,fun k7=>?_⟩⟩⟩⟩⟩,fun h=>absurd (by omega) (df h)⟩
   ·have h1:e.1=1:=eq_of_beq h;exact next 1 (by rw [hw,if_pos h1];rfl)
   ·have h1:e.1≠1:=by simpa using k1
    have h4:e.1=4:=eq_of_beq h;rw [if_neg h1,if_pos h4] at hw;obtain ⟨⟨a0,a1⟩,b0,b1⟩:=hd.two _ e he (.inl h4);have l1:=WV_le d d.length e.2.1;have l2:=WV_le d d.length e.2.2.1;have hm:wv d e.2.1*wv d e.2.2.1≤4:=by have:=Nat.mul_le_mul l1 l2;exact this
    refine ⟨_,hat k _ a0 a1,_,hat k _ b0 b1,zh (by rw [← Int.natCast_mul];omega) (by rw [← Int.natCast_mul];omega), ?_⟩;rw [← Int.natCast_mul];exact next _ hw.symm
   ·have h1:e.1≠1:=by simpa using k1
    have h4:e.1≠4:=by simpa using k4
    have h5:e.1=5:=eq_of_beq h;rw [if_neg h1,if_neg h4,if_pos h5] at hw;obtain ⟨⟨a0,a1⟩,b0,b1⟩:=hd.two _ e he (.inr h5);have l1:=WV_le d d.length e.2.1;have l2:=WV_le d d.length e.2.2.1;unfold wv at *;refine ⟨_,hat k _ a0 a1,_,hat k _ b0 b1,zh (by omega) (by omega), ?_⟩;exact next (WV d d.length e.2.1+WV d d.length e.2.2.1) hw.symm
   ·have h1:e.1≠1:=by simpa using k1
    have h4:e.1≠4:=by simpa using k4
    have h5:e.1≠5:=by simpa using k5
    have h6:e.1=6:=eq_of_beq h;rw [if_neg h1,if_neg h4,if_neg h5,if_pos h6] at hw;obtain ⟨a0,a1⟩:=hd.one _ e he (.inl h6);refine ⟨_,hat k _ a0 a1,fun h=>?_,fun h=>?_⟩
    ·exact next 2 (by rw [hw,if_pos (by have:=dt h;omega)];rfl)
    ·exact next 1 (by rw [hw,if_neg (by have:=df h;omega)];rfl)
   ·have h1:e.1≠1:=by simpa using k1
    have h4:e.1≠4:=by simpa using k4
    have h5:e.1≠5:=by simpa using k5
    have h6:e.1≠6:=by simpa using k6
    have h7:e.1=7:=eq_of_beq h;rw [if_neg h1,if_neg h4,if_neg h5,if_neg h6,if_pos h7] at hw;obtain ⟨a0,a1⟩:=hd.one _ e he (.inr (.inl h7));obtain ⟨r0,r1,r2⟩:=hd.rep _ e he h7;have hs:=sumW_le (wv d e.2.1) e.2.2.2.1.toNat (e.2.2.2.2.1+1-e.2.2.2.1).toNat;have e1:(e.2.2.2.2.1+1-e.2.2.2.1).toNat=e.2.2.2.2.1.toNat+1-e.2.2.2.1.toNat:=by omega
    have:=ways_l2 (l:=(List.range k).map fun (j:Nat)=>(wv d (j:Int):Int)) (WV_le d d.length e.2.1) (e:=e) (hat k _ a0 a1) (lo:=e.2.2.2.1.toNat) (hi:=e.2.2.2.2.1.toNat) (by omega) (by omega) (by omega)
     (Z:=zl.j2 (zl.l1 d (i:Int) (zl.j1 (i:Int) (wv d (i:Int):Int)) f) ((List.range k).map fun (j:Nat)=>(wv d (j:Int):Int)) (k:Int))
     (next _ (by rw [hw,e1];rw [e1] at hs;exact Nat.min_eq_right hs)) (e.2.2.2.2.1.toNat+1-e.2.2.2.1.toNat) 0 (by omega)
    have e2:((e.2.2.2.1.toNat+0:Nat):Int)=e.2.2.2.1:=by omega
    rw [e2] at this;exact this
   ·have h1:e.1≠1:=by simpa using k1
    have h4:e.1≠4:=by simpa using k4
    have h5:e.1≠5:=by simpa using k5
    have h6:e.1≠6:=by simpa using k6
    have h7:e.1≠7:=by simpa using k7
    rw [if_neg h1,if_neg h4,if_neg h5,if_neg h6,if_neg h7] at hw;exact next 0 (by rw [hw];rfl)
 obtain ⟨f,hf⟩:=key (i+1) 0 (by omega);exact ⟨f,by simpa using hf⟩
theorem first8_ok {d:List SNode} (hl:d.length≤1000) (hd:NOk d):∃r,zb2 d r∧(r.2=false→∀(i:Int) n,at? d i=some n→(n.1=6∨n.1=7)→nz d n.2.1=false):=by
 have key:∀(m i:Nat),i+m=d.length→(∀(k:Int) n,k<(i:Int)→at? d k=some n→(n.1=6∨n.1=7)→nz d n.2.1=false)→∃q:(Int × Bool) × Nat,zb2.l1 d q.1 (zb2.j1 q.1) q.2 (i:Int)∧(q.1.2=false→∀(i:Int) n,at? d i=some n→(n.1=6∨n.1=7)→nz d n.2.1=false):=by
  intro m
  induction m with
  | zero=>
   intro i hi hk;exact ⟨((0,false),1),⟨fun h=>absurd (dt h) (by omega),fun _=>rfl⟩,fun _ k n hn=>hk k n (by have:=zbv hn;omega) hn⟩
  | succ m ih=>
   intro i hi hk;obtain ⟨e,he,_⟩:=zob (xs:=d) (i:=(i:Int)) (by omega) (by omega);have hw:∃w,((((e.1==6)||(e.1==7)))=true→zl d e.2.1 w∧(w=0→nz d e.2.1=false)):=by
    by_cases hkk:e.1=6∨e.1=7
    ·obtain ⟨a0,a1⟩:=hd.one _ e he (by omega);obtain ⟨mm,hm⟩:=zdq he a0 a1;obtain ⟨j,hj⟩:∃j:Nat,e.2.1=(j:Int):=⟨e.2.1.toNat,by omega⟩;refine ⟨(wv d e.2.1:Int),fun _=>⟨?_,fun h0=>?_⟩⟩
     ·rw [hj];exact zqc hl hd (by omega)
     ·have:=wv_nz hd (d.length) e.2.1 mm (by omega) hm;cases hz:nz d e.2.1
      ·rfl
      ·have:=this.2 hz;omega
    ·exact ⟨0,fun h=>absurd (by simpa using h) hkk⟩
   obtain ⟨w,hw⟩:=hw;cases hb:(((e.1==6)||(e.1==7))&&(w != 0))
   ·obtain ⟨q,hq,hq2⟩:=ih (i+1) (by omega) (fun k n hki hn hkk=>by
     by_cases hk2:k=(i:Int)
     ·subst hk2;rw [he] at hn;cases hn;have h6:((e.1==6)||(e.1==7))=true:=by simpa using hkk
      rw [h6] at hb;simp at hb;exact (hw h6).2 hb
     ·exact hk k n (by omega) hn hkk)
    exact ⟨(q.1,q.2+1),⟨fun _=>⟨e,he,e,fun _=>he,w,fun h=>(hw h).1,(fun h=>by rw [hb] at h;cases h),fun _=>⟨zh (by omega) (by omega),by simpa using hq⟩⟩,fun h=>absurd (by omega) (df h)⟩,hq2⟩
   ·exact ⟨(((i:Int),true),1),⟨fun _=>⟨e,he,e,fun _=>he,w,fun h=>(hw h).1,fun _=>rfl,fun h=>by rw [hb] at h;cases h⟩,fun h=>absurd (by omega) (df h)⟩,(fun h=>by cases h)⟩
 obtain ⟨q,hq,hq2⟩:=key d.length 0 (by omega) (fun k n hk hn=>by have:=zbv hn;omega);exact ⟨q.1,⟨q.2,hq⟩,hq2⟩
structure Rt (d:List SNode):Prop extends ROk d where
 tr:Tr d 0 ((d.length:Int)-1)
theorem Rt.ne {d:List SNode} (h:Rt d):d≠[]:=fun e=>by
 have:=h.tr.le;subst e;simp at this
theorem right_ok {d:List SNode} (hl:d.length≤1000) (ht:∀n∈d,n.2.2.2.2.2.2.length≤140737488351232):∃r,zgl d r∧(r=true→Rt d):=by
 obtain ⟨f,hf,ho⟩:=form_ex hl ht;cases f
 ·exact ⟨false,⟨false,hf,fun _=>rfl,(fun h=>by cases h)⟩,(fun h=>by cases h)⟩
 ·have hd:=(ho rfl).nok;obtain ⟨w,hw,hw2⟩:=first8_ok hl hd;refine ⟨!w.2,⟨true,hf,(fun h=>by cases h),fun _=>⟨w,hw,rfl⟩⟩,fun h=>?_⟩;have:=hw2 (by simpa using h);exact ⟨⟨hd.two,hd.one,hd.rep,hd.kind,hd.ntx,this⟩,ho rfl⟩
def CV (d:List SNode):Nat→Int→List (List SItem)
 | 0,_=>[]
 | k+1,i=>match at? d i with
  | none=>[]
  | some n=>
   if n.1=1 then []
   else if n.1=3 then [[(3,i,0,0)]]
   else if n.1=4 then (CV d k n.2.1).map (·++[(1,n.2.2.1,0,0)])++CV d k n.2.2.1
   else if n.1=5 then CV d k n.2.1++CV d k n.2.2.1
   else if n.1=6 then (CV d k n.2.1).map (·++[(1,i,0,0)])
   else if n.1=7 then (CV d k n.2.1).map (·++[(2,i,max (n.2.2.2.1-1) 0,n.2.2.2.2.1-1)])
   else [[(1,i,0,0)]]
theorem PM_CV (d:List SNode):∀(k:Nat) (i:Int),∀p∈(PM d k i).1,p∈CV d k i
 | 0,i,p,hp=>by simp [PM] at hp
 | k+1,i,p,hp=>by
  unfold PM at hp;unfold CV;cases hn:at? d i with
  | none=>rw [hn] at hp;simp at hp
  | some n=>
   rw [hn] at hp;have a:=PM_CV d k n.2.1;have b:=PM_CV d k n.2.2.1;simp only at hp ⊢
   by_cases h1:n.1=1
   ·simp [h1] at hp
   ·rw [if_neg h1] at hp ⊢
    by_cases h3:n.1=3
    ·rw [if_pos h3] at hp ⊢;exact hp
    ·rw [if_neg h3] at hp ⊢
     by_cases h4:n.1=4
     ·rw [if_pos h4] at hp ⊢;rcases List.mem_append.1 hp with hp | hp
      ·obtain ⟨q,hq,rfl⟩:=List.mem_map.1 hp;exact List.mem_append.2 (.inl (List.mem_map.2 ⟨q,a q hq,rfl⟩))
      ·obtain ⟨l,hl,hp⟩:=List.mem_flatten.1 hp;rw [List.mem_replicate.1 hl |>.2] at hp;exact List.mem_append.2 (.inr (b p hp))
     ·rw [if_neg h4] at hp ⊢
      by_cases h5:n.1=5
      ·rw [if_pos h5] at hp ⊢;rcases List.mem_append.1 hp with hp | hp
       ·exact List.mem_append.2 (.inl (a p hp))
       ·exact List.mem_append.2 (.inr (b p hp))
      ·rw [if_neg h5] at hp ⊢
       by_cases h6:n.1=6
       ·rw [if_pos h6] at hp ⊢;obtain ⟨q,hq,rfl⟩:=List.mem_map.1 hp;exact List.mem_map.2 ⟨q,a q hq,rfl⟩
       ·rw [if_neg h6] at hp ⊢
        by_cases h7:n.1=7
        ·rw [if_pos h7] at hp ⊢;simp only at hp;split at hp
         ·obtain ⟨q,hq,rfl⟩:=List.mem_map.1 hp;exact List.mem_map.2 ⟨q,a q hq,rfl⟩
         ·cases hp
        ·rw [if_neg h7] at hp ⊢;exact hp
def CI (d:List SNode) (x:SItem):List (List SItem):=
 if x.1=1 then CV d d.length x.2.1
 else if x.1=2 then (match at? d x.2.1 with | some n=>(CV d d.length n.2.1).map (·++[(2,x.2.1,max (x.2.2.1-1) 0,x.2.2.2-1)]) | none=>[])
 else [[x]]
def CS (d:List SNode):List SItem→List (List SItem)
 | []=>[[]]
 | x::rest=>(CI d x).map (·++rest)++CS d rest
theorem pmI_CI (d:List SNode) (x:SItem):∀p∈pmI d x,p∈CI d x:=by
 intro p hp;unfold pmI at hp;unfold CI
 by_cases h1:x.1=1
 ·rw [if_pos h1] at hp ⊢;exact PM_CV d _ _ p hp
 ·rw [if_neg h1] at hp ⊢
  by_cases h2:x.1=2
  ·rw [if_pos h2] at hp ⊢;cases hn:at? d x.2.1 with
   | none=>rw [hn] at hp;cases hp
   | some n=>
    rw [hn] at hp;simp only at hp ⊢;split at hp
    ·obtain ⟨q,hq,rfl⟩:=List.mem_map.1 hp;exact List.mem_map.2 ⟨q,PM_CV d _ _ q hq,rfl⟩
    ·cases hp
  ·rw [if_neg h2] at hp ⊢;split at hp
   ·cases hp
   ·exact hp
theorem hds_CS (d:List SNode):∀(s:List SItem),∀t∈hds d s,t∈CS d s
 | [],t,ht=>ht
 | x::rest,t,ht=>by
  rcases List.mem_append.1 ht with ht | ht
  ·obtain ⟨q,hq,rfl⟩:=List.mem_map.1 ht;exact List.mem_append.2 (.inl (List.mem_map.2 ⟨q,pmI_CI d x q hq,rfl⟩))
  ·obtain ⟨l,hl,hp⟩:=List.mem_flatten.1 ht;rw [List.mem_replicate.1 hl |>.2] at hp;exact List.mem_append.2 (.inr (hds_CS d rest t hp))
structure BrOk (l:List SBranch):Prop where
 many:∀b∈l,0≤b.2∧b.2≤2
 len:∀b∈l,b.1.length≤1000
theorem zje {s:List SItem} {many:Int}:∀(l:List SBranch) (i:Nat),(∀b∈l.take i,¬ zeq s b.1=0∧¬ zeq s b.1<0)→zl3 s many l=l.take i++zl3 s many (l.drop i)
 | l,0,_=>rfl
 | [],i+1,_=>by simp
 | b::l,i+1,h=>by
  have hb:=h b (by simp)
  conv=>lhs;unfold zl3
  rw [if_neg hb.1,if_neg hb.2,zje l i fun c hc=>h c (by simp [hc])];rfl
theorem zlu {l:List SBranch} (hs:l.Pairwise (fun a b=>zeq a.1 b.1<0)) (hb:BrOk l) (hl:l.length≤2000000000) {s:List SItem} (hsl:s.length≤1000) {many:Int} (hm:0≤many∧many≤2):zdf l s many (zl3 s many l):=by
 refine uptoK (P:=fun k (q:List SBranch × Bool) v=>zdf.l1 l s many _ k q.1 q.2 v) l.length
  (fun i q=>(q.2=false→q.1=l.take i∧∀b∈l.take i,¬ zeq s b.1=0∧¬ zeq s b.1<0)∧(q.2=true→q.1++l.drop i=zl3 s many l∧∀b∈l.drop i,zeq s b.1<0)) ?_ ?_ ([],false) ⟨fun _=>⟨by simp,by simp⟩,(fun h=>by cases h)⟩
 ·rintro i ⟨out,done⟩ k hi ⟨h1,h2⟩ hk;have hol:out.length≤l.length+1:=by
   cases done
   ·have k1:=(h1 rfl).1;simp only at k1;rw [k1];simp;omega
   ·have:=congrArg List.length (h2 rfl).1;have h3:=addB_len s many l;simp at this;omega
  have hbm:l[i]∈l:=List.getElem_mem hi;have hmb:=hb.many _ hbm;have hlb:=hb.len _ hbm;have hat:at? l (i:Int)=some l[i]:=by rw [zbn];simp [hi]
  have hdr:l.drop i=l[i]::l.drop (i+1):=(List.getElem_cons_drop hi).symm;have htk:l.take (i+1)=l.take i++[l[i]]:=List.take_succ_eq_append_getElem hi;have hsrt:∀b∈l.drop (i+1),zeq l[i].1 b.1<0:=by
   have:=hs.sublist (List.drop_sublist i l);rw [hdr,List.pairwise_cons] at this;exact this.1
  refine ⟨fun _=>⟨l[i],hat,_,zl5 hsl hlb,fun h0=>?_,fun h0=>⟨fun hc=>?_,fun hc=>?_⟩⟩,fun h=>absurd (by omega) (df h)⟩
  ·have e0:zeq s l[i].1=0:=by simpa using h0
   refine ⟨l[i],hat,zh (by omega) (by omega),by simp;omega,zh (by omega) (by omega),hk (out++[(s,min 2 (l[i].2+many))],true) ⟨(fun h=>by cases h),fun _=>?_⟩⟩;cases done
   ·obtain ⟨k1,k2⟩:=h1 rfl;simp only at k1;refine ⟨?_,fun b hbb=>by rw [zd8.1 e0];exact hsrt b hbb⟩;rw [zje l i k2,hdr,k1]
    conv=>rhs;unfold zl3
    rw [if_pos e0];simp
   ·obtain ⟨k1,k2⟩:=h2 rfl;have:=k2 l[i] (hdr ▸ List.mem_cons_self);omega
  ·simp only [Bool.and_eq_true,decide_eq_true_eq,Bool.not_eq_true'] at hc;obtain ⟨c1,c2⟩:=hc;subst c2;obtain ⟨k1,k2⟩:=h1 rfl;simp only at k1;refine ⟨by simp;omega,l[i],hat,by simp;omega,zh (by omega) (by omega),hk (out++[(s,many)]++[l[i]],true) ⟨(fun h=>by cases h),fun _=>⟨?_,fun b hbb=>zgc c1 (hsrt b hbb)⟩⟩⟩;rw [zje l i k2,hdr,k1]
   conv=>rhs;unfold zl3
   rw [if_neg (by omega),if_pos c1];simp
  ·have e0:¬ zeq s l[i].1=0:=by simpa using h0
   refine ⟨l[i],hat,by simp;omega,zh (by omega) (by omega),hk (out++[l[i]],done) ⟨fun hd=>?_,fun hd=>?_⟩⟩
   ·simp only at hd;subst hd;obtain ⟨k1,k2⟩:=h1 rfl;simp only at k1;simp only [Bool.not_false,Bool.and_true,decide_eq_false_iff_not] at hc;refine ⟨by rw [htk,k1],fun b hbb=>?_⟩;rw [htk] at hbb;rcases List.mem_append.1 hbb with hbb | hbb
    ·exact k2 b hbb
    ·rw [List.mem_singleton.1 hbb];exact ⟨e0,hc⟩
   ·simp only at hd;subst hd;obtain ⟨k1,k2⟩:=h2 rfl;refine ⟨?_,fun b hbb=>k2 b (hdr ▸ List.mem_cons_of_mem _ hbb)⟩;rw [← k1,hdr];simp
 ·rintro ⟨out,done⟩ ⟨h1,h2⟩ k;refine ⟨fun h=>absurd (dt h) (by omega),fun _=>⟨fun hd=>?_,fun hd=>?_⟩⟩
  ·have hd':done=false:=by simpa using hd
   subst hd';obtain ⟨k1,k2⟩:=h1 rfl;simp only at k1;rw [List.take_length] at k1;refine ⟨by rw [k1];simp;omega, ?_⟩;rw [zje l l.length k2,k1];simp [zl3]
  ·have hd':done=true:=by simpa using hd
   subst hd';obtain ⟨k1,k2⟩:=h2 rfl;rw [← k1];simp
theorem Can.brok {f:List SItem→Nat} {B:List SBranch} (h:Can f B) (hl:∀t,f t≠0→t.length≤1000):BrOk B:=
 ⟨fun b hb=>by have:=(h.many hb).2.2;omega,fun b hb=>hl _ (h.many hb).2.1⟩
theorem into_in {d:List SNode} (hd:ROk d) (hdl:d.length≤400) (hd0:∃n,at? d 0=some n) (U:List (List SItem)) (hU:U.length≤1000000000) (hU1:∀t∈U,t.length≤1000):∀(h:Nat) (s:List SItem) (L:List (List SItem)),lv d h s=some L→Vs d 400 s→∀(f:List SItem→Nat) (B:List SBranch),Can f B→(∀t,f t≠0→t∈U)→(∀t∈L,t∈U)→∃r,zc4.n h d s B r∧Can (fun t=>f t+L.count t) r
 | 0,s,L,hL,_,_,_,_,_,_=>by simp [lv] at hL
 | h+1,s,L,hL,hv,f,B,hB,hf,hLU=>by
  have hlen:=hv.len;have hBl:=zrg hB hf;have hBo:=hB.brok fun t ht=>hU1 t (hf t ht);cases hr:rdy d s with
  | true=>
   have e:L=[s]:=by
    unfold lv at hL;rw [if_pos hr] at hL;exact (Option.some.inj hL).symm
   subst e;refine ⟨zl3 s 1 B,⟨true,hr ▸ zjk hv.form hd0,fun _=>⟨s,zrh (by simp) (by omega),_,zlu hB.srt hBo (by omega) (by omega) (by omega),rfl⟩,(fun h=>by cases h)⟩, ?_⟩;refine (hB.add s (n:=1) (by omega)).congr fun t=>?_;simp only [List.count_singleton,beq_iff_eq]
   by_cases ht:t=s
   ·subst ht;simp
   ·simp [ht,Ne.symm ht]
  | false=>
   have hopn:=hv.opn hd hr;obtain ⟨ls,hls,hlf⟩:∃ls,(opn d s).mapM (lv d h)=some ls∧ls.flatten=L:=by
    unfold lv at hL;rw [if_neg (by rw [hr];simp)] at hL;exact Option.map_eq_some_iff.1 hL
   have hlsl:ls.length=(opn d s).length:=zmh hls;have hol:=opn_len (d:=d) s;have key:∀(m i:Nat) (B':List SBranch),i+m=(opn d s).length→Can (fun t=>f t+(ls.take i).flatten.count t) B'→∃(r:List SBranch) (k:Nat),zc4.l1 (zc4.n h) d (opn d s) (zc4.j1 r) k B' (i:Int)∧Can (fun t=>f t+L.count t) r:=by
    intro m
    induction m with
    | zero=>
     intro i B' hi hB';refine ⟨B',1,⟨fun h=>absurd (dt h) (by omega),fun _=>rfl⟩, ?_⟩;rw [List.take_of_length_le (by omega),hlf] at hB';exact hB'
    | succ m ih=>
     intro i B' hi hB';have hil:i<(opn d s).length:=by omega
     obtain ⟨li,h1,h2⟩:=zqs hls hil;have hsub:∀t∈li,t∈L:=fun t ht=>by
      rw [← hlf];exact List.mem_flatten.2 ⟨li,List.mem_of_getElem? h2,ht⟩
     have hsub2:∀t,(ls.take i).flatten.count t≠0→t∈U:=fun t ht=>by
      have hp:t∈(ls.take i).flatten:=List.count_pos_iff.1 (by omega);obtain ⟨l,hl,ht⟩:=List.mem_flatten.1 hp;exact hLU t (by rw [← hlf];exact List.mem_flatten.2 ⟨l,List.mem_of_mem_take hl,ht⟩)
     obtain ⟨r1,hr1,hr2⟩:=into_in hd hdl hd0 U hU hU1 h _ li h1 (hopn _ (List.getElem_mem hil)) _ B' hB' (fun t ht=>by
      by_cases h0:f t=0
      ·exact hsub2 t (by omega)
      ·exact hf t h0) (fun t ht=>hLU t (hsub t ht))
     obtain ⟨r,k,hk1,hk2⟩:=ih (i+1) r1 (by omega) (hr2.congr fun t=>by rw [take_flat h2,List.count_append,Nat.add_assoc]);exact ⟨r,k+1,⟨fun _=>⟨_,by rw [zbn];simp [hil],r1,hr1,zh (by omega) (by omega),by simpa using hk1⟩,fun h=>absurd (by omega) (df h)⟩,hk2⟩
   obtain ⟨r,k,hk1,hk2⟩:=key (opn d s).length 0 B (by omega) (hB.congr fun t=>by simp);exact ⟨r,⟨false,hr ▸ zjk hv.form hd0,(fun h=>by cases h),fun _=>⟨_,zp9 hd hv.form hr (by omega) hd0,k,hk1⟩⟩,hk2⟩
theorem zpk {α:Type} [BEq α] [LawfulBEq α]:∀(n:Nat) (l:List α),l.length≤n→l.eraseDups.Nodup
 | _,[],_=>by simp
 | 0,x::l,h=>by simp at h
 | n+1,x::l,h=>by
  rw [List.eraseDups_cons,List.nodup_cons];refine ⟨fun hx=>?_,zpk n _ (Nat.le_trans (List.length_filter_le _ _) (by simpa using h))⟩;have:=List.mem_eraseDups.1 hx;simp at this
theorem CV_tr {d:List SNode} {f i:Int} (h:Tr d f i):∀k,((CV d k i).length:Int)≤i-f+1:=by
 induction h with
 | leaf he hk hx h0=>
  rename_i i e
  intro k;cases k with
  | zero=>simp [CV]
  | succ k=>
   unfold CV;rw [he];simp only;rcases hk with h | h | h
   ·simp [h]
   ·simp [h]
   ·simp [h]
 | one he hk ha hb hr t ih=>
  rename_i f i e
  intro k;have hle:=t.le;cases k with
  | zero=>simp [CV];omega
  | succ k=>
   have:=ih k;unfold CV;rw [he];simp only;rw [if_neg (by omega),if_neg (by omega),if_neg (by omega),if_neg (by omega),ha];split
   ·rw [List.length_map];omega
   ·split
    ·rw [List.length_map];omega
    ·simp;omega
 | two he hk ha hb t1 t2 i1 i2=>
  rename_i f p i e
  intro k;have h1:=t1.le;have h2:=t2.le;cases k with
  | zero=>simp [CV];omega
  | succ k=>
   have a1:=i1 k;have a2:=i2 k;unfold CV;rw [he];simp only;rw [if_neg (by omega),if_neg (by omega),ha,hb];split
   ·rw [List.length_append,List.length_map];omega
   ·split
    ·rw [List.length_append];omega
    ·omega
theorem CV_few {d:List SNode} (h:Rt d) (k:Nat) (i:Int):(CV d k i).length≤d.length+1:=by
 cases hn:at? d i with
 | none=>cases k <;> simp [CV,hn]
 | some n=>
  obtain ⟨g,hg⟩:=h.tr.at hn;have h1:=CV_tr hg k;have h2:=hg.le;have h3:=hg.lt;omega
theorem CS_few {d:List SNode} (h:Rt d):∀s:List SItem,(CS d s).length≤s.length*(d.length+1)+1
 | []=>by simp [CS]
 | x::rest=>by
  have h1:=CS_few h rest;have h2:(CI d x).length≤d.length+1:=by
   unfold CI;split
   ·exact CV_few h _ _
   ·split
    ·split
     ·rw [List.length_map];exact CV_few h _ _
     ·simp
    ·simp
  simp only [CS,List.length_append,List.length_map,List.length_cons,Nat.succ_mul];omega
structure Sm (d:List SNode) (s:List SItem):Prop where
 rt:Rt d
 len:d.length≤24
 txt:∀n∈d,n.2.2.2.2.2.2.length≤140737488351232
 form:zd2 d s=true
 slen:s.length≤400
theorem Sm.dok {d:List SNode} {s:List SItem} (h:Sm d s):DOk d:=⟨by have:=h.len;omega,fun n hn=>by have:=h.txt n hn;omega⟩
theorem Sm.ne {d:List SNode} {s:List SItem} (h:Sm d s):∃n,at? d 0=some n:=by
 have:=h.rt.ne;cases d with
 | nil=>exact absurd rfl this
 | cons n d=>exact ⟨n,rfl⟩
theorem Sm.vs {d:List SNode} {s:List SItem} (h:Sm d s):Vs d 400 s:=Vs.start h.form (by have:=h.slen;omega)
theorem zlm {d:List SNode} {s:List SItem} (h:Sm d s):∃B,zfl d s B∧zhz d s B∧Can (fun t=>(hds d s).count t) B:=by
 have hd:=h.rt.toROk;obtain ⟨L,⟨k,hk⟩,hp⟩:=hds_lv hd s h.form;have hU:(CS d s).length≤1000000000:=by
  have h1:=CS_few h.rt s;have h4:s.length*(d.length+1)≤400*25:=Nat.mul_le_mul h.slen (by have:=h.len;omega);omega
 have hLU:∀t∈L,t∈CS d s:=fun t ht=>hds_CS d s t (hp.mem_iff.1 ht);have hvs:=lv_vs hd k s L hk h.vs;have hLU2:∀t∈L,t∈L.eraseDups:=fun t ht=>List.mem_eraseDups.2 ht;have hUl:L.eraseDups.length≤1000000000:=Nat.le_trans (zju (zpk _ L (Nat.le_refl _)) fun t ht=>hLU t (List.mem_eraseDups.1 ht)) hU;have hU1:∀t∈L.eraseDups,t.length≤1000:=fun t ht=>by
  have:=(hvs t (List.mem_eraseDups.1 ht)).1.len;have:=h.len;omega
 obtain ⟨B,hB1,hB2⟩:=into_in hd (by have:=h.len;omega) h.ne L.eraseDups hUl hU1 k s L hk h.vs (fun _=>0) [] Can.nil (fun t ht=>absurd rfl ht) hLU2;have hB3:Can (fun t=>L.count t) B:=hB2.congr fun t=>by simp
 have hBl:=zrg hB3 (U:=L.eraseDups) fun t ht=>hLU2 t (List.count_pos_iff.1 (by omega));exact ⟨B,⟨hd,h.dok,by have:=h.len;omega,h.rt.ne,h.form,by have:=h.slen;omega,by omega,k,L,hk,hB3⟩,⟨B,⟨k,hB1⟩,rfl⟩,hB3.congr fun t=>by rw [hp.count_eq]⟩
theorem zq2 {s:List SItem} (hs:s.length≤1000) (hr:∀x∈s,ItR x):zcg s (zdo s):=by
 refine ⟨s,clone_in hs, ?_⟩;refine zhe (P:=fun k (t:List SItem) v=>zcg.l1 s (zdo s) _ k t v) s.length (fun i t=>t=(s.take i).map zk1++s.drop i∧(s.take i).any zkx=false) ?_ ?_ _ ⟨by simp,by simp⟩
 ·rintro i t hi ⟨rfl,hb⟩;have hl:((s.take i).map zk1).length=i:=by simp;omega
  have hat:at? ((s.take i).map zk1++s.drop i) (i:Int)=some s[i]:=by
   rw [zbn,List.getElem?_append_right (by omega),hl,Nat.sub_self];simp [hi]
  have hset:∀y,((s.take i).map zk1++s.drop i).set i y=(s.take i).map zk1++[y]++s.drop (i+1):=fun y=>by
   rw [List.set_append_right _ _ (by omega),hl,Nat.sub_self,List.drop_eq_getElem_cons hi,List.set_cons_zero];simp
  have hnext:(s.take (i+1)).map zk1++s.drop (i+1)=(s.take i).map zk1++[zk1 s[i]]++s.drop (i+1):=by
   rw [List.take_succ_eq_append_getElem hi,List.map_append];rfl
  have hri:=(hr _ (List.getElem_mem hi)).2.2.1;rw [zis] at hri
  by_cases h5:s[i].1=5
  ·by_cases hlo:s[i].2.2.1≤0
   ·have hbad:zkx s[i]=true:=by simp [zkx,h5,hlo]
    refine .inl fun k=>⟨fun _=>⟨_,hat,fun h=>by simp [h5] at h,fun _=>⟨fun _=>?_,fun h=>absurd hlo (df h)⟩⟩,fun h=>absurd (by omega) (df h)⟩;unfold zdo;rw [if_pos (any_of hi hbad)]
   ·have hbad:zkx s[i]=false:=by simp [zkx,hlo]
    refine .inr ⟨_,⟨rfl,by rw [zmo hi,hb,hbad];rfl⟩,fun k h=>⟨fun _=>⟨_,hat,fun h=>by simp [h5] at h,fun _=>⟨fun h=>absurd (dt h) hlo,fun _=>⟨_,hat,zh (by omega) (by omega),_,hat,zh (by omega) (by omega), ?_⟩⟩⟩,fun h=>absurd (by omega) (df h)⟩⟩;rw [hnext] at h;rw [Int.toNat_natCast,hset];have e:zk1 s[i]=(s[i].1,s[i].2.1,s[i].2.2.1-1,s[i].2.2.2):=by unfold zk1;rw [if_pos h5]
    rw [← e];exact h
  ·have hbad:zkx s[i]=false:=by simp [zkx,h5]
   refine .inr ⟨_,⟨rfl,by rw [zmo hi,hb,hbad];rfl⟩,fun k h=>⟨fun _=>⟨_,hat,fun _=>⟨zh (by omega) (by omega), ?_⟩,fun h=>by simp at h;exact absurd h h5⟩,fun h=>absurd (by omega) (df h)⟩⟩;rw [hnext] at h;have e:zk1 s[i]=s[i]:=by unfold zk1;rw [if_neg h5]
   rw [e] at h;rw [List.drop_eq_getElem_cons hi];simpa using h
 ·rintro t ⟨rfl,hb⟩ k;refine ⟨fun h=>absurd (dt h) (by omega),fun _=>?_⟩;rw [List.take_length] at hb;show zdo s=_;unfold zdo;rw [if_neg (by rw [hb];simp)];simp
theorem zor {s:List SItem} (hs:s.length≤1000) (hr:∀x∈s,ItR x):zbx s (zdo s):=by
 refine zhe (P:=fun k (t:List SItem) v=>zbx.l1 s (zdo s) _ k t v) s.length (fun i t=>t=(s.take i).map zk1∧(s.take i).any zkx=false) ?_ ?_ _ ⟨by simp,by simp⟩
 ·rintro i t hi ⟨rfl,hb⟩;have hl:((s.take i).map zk1).length=i:=by simp;omega
  have hat:at? s (i:Int)=some s[i]:=by rw [zbn];simp [hi]
  have hnext:(s.take (i+1)).map zk1=(s.take i).map zk1++[zk1 s[i]]:=by
   rw [List.take_succ_eq_append_getElem hi,List.map_append];rfl
  have hri:=(hr _ (List.getElem_mem hi)).2.2.1;rw [zis] at hri;have hj:∀k,zbx.l1 s (zdo s) (zbx.j1 (zdo s)) k ((s.take (i+1)).map zk1) ((i:Int)+1)→zbx.j2 (zbx.l1 s (zdo s) (zbx.j1 (zdo s)) k) ((s.take i).map zk1) (i:Int) (zk1 s[i]):=fun k h=>by
   refine ⟨by rw [hl];simp only [List.length_cons,List.length_nil];omega,zh (by omega) (by omega), ?_⟩;rw [hnext] at h;exact h
  by_cases h5:s[i].1=5
  ·by_cases hlo:s[i].2.2.1≤0
   ·have hbad:zkx s[i]=true:=by simp [zkx,h5,hlo]
    refine .inl fun k=>⟨fun _=>⟨_,hat,fun _=>⟨fun _=>?_,fun h=>absurd hlo (df h)⟩,fun h=>by simp [h5] at h⟩,fun h=>absurd (by omega) (df h)⟩;unfold zdo;rw [if_pos (any_of hi hbad)]
   ·have hbad:zkx s[i]=false:=by simp [zkx,hlo]
    refine .inr ⟨_,⟨rfl,by rw [zmo hi,hb,hbad];rfl⟩,fun k h=>⟨fun _=>⟨_,hat,fun _=>⟨fun h=>absurd (dt h) hlo,fun _=>⟨zh (by omega) (by omega), ?_⟩⟩,fun h=>by simp [h5] at h⟩,fun h=>absurd (by omega) (df h)⟩⟩;have:=hj k h;unfold zk1 at this;rw [if_pos h5] at this;exact this
  ·have hbad:zkx s[i]=false:=by simp [zkx,h5]
   refine .inr ⟨_,⟨rfl,by rw [zmo hi,hb,hbad];rfl⟩,fun k h=>⟨fun _=>⟨_,hat,fun h=>by simp at h;exact absurd h h5,fun _=>?_⟩,fun h=>absurd (by omega) (df h)⟩⟩;have:=hj k h;unfold zk1 at this;rw [if_neg h5] at this;exact this
 ·rintro t ⟨rfl,hb⟩ k;refine ⟨fun h=>absurd (dt h) (by omega),fun _=>?_⟩;rw [List.take_length] at hb;show zdo s=_;unfold zdo;rw [if_neg (by rw [hb];simp),List.take_length]
theorem zl1 {a:Cl} {n:Nat} (hn:n<256):zfz a (n:Int) (a.has n):=by
 refine ⟨⟨by omega,by omega⟩,_,rfl, ?_⟩;rw [show ((n:Int) / 64)=((n / 64:Nat):Int) by omega,show ((n:Int) % 64)=((n % 64:Nat):Int) by omega];show _=(andI (zpb (((a.word ((n / 64:Nat):Int).toNat):Nat):Int) _) 1==1);rw [Int.toNat_natCast,shr_bit (Nat.mod_lt _ (by omega)),has_w hn]
theorem zl0 {a:Cl} {c:Int} (hc:InR .u8 c):zfz a c (a.has c.toNat):=by
 obtain ⟨n,hn,rfl⟩:=u8_of hc;simpa using zl1 (a:=a) hn
theorem zh6 {a:Cl} {i:Nat} (hi:i<256):zfz a ((i:Int) % 256) (a.has i):=by
 rw [show ((i:Int) % 256)=(i:Int) by omega];exact zl1 hi
theorem class_Add_in {a:Cl} {l:List Int} (hl:∀x∈l,InR .u8 x) (hn:l.length<9223372036854775807):zc0 a l (a.addL l):=by
 refine zhe (P:=fun k (s:Cl) v=>zc0.l1 l _ k s v) l.length (fun i s=>s=a.addL (l.take i)) ?_ ?_ a (by simp [Cl.addL])
 ·rintro i s hi rfl;refine .inr ⟨a.addL (l.take (i+1)),rfl,fun k h=>?_⟩;refine ⟨fun _=>?_,fun h=>absurd (by omega) (df h)⟩;obtain ⟨n,hn,he⟩:=u8_of (hl l[i] (List.getElem_mem hi));refine ⟨l[i],by rw [zbn];simp [hi], ?_, ?_,zh (by omega) (by omega), ?_⟩
  ·rw [he];omega
  ·rw [he];omega
  ·rw [he,show ((n:Int) / 64)=((n / 64:Nat):Int) by omega,show ((n:Int) % 64)=((n % 64:Nat):Int) by omega,put_words hn];have:(a.addL (l.take i)).put n=a.addL (l.take (i+1)):=by
    rw [List.take_succ_eq_append_getElem hi];simp [Cl.addL,he]
   rw [this];exact h
 ·rintro s rfl k;exact ⟨fun h=>absurd (dt h) (by omega),fun _=>by simp [zc0.j1]⟩
theorem zn6 {f t:Int}:zdi f t (Cl.row f t):=by
 refine zhe (P:=fun k (s:Cl) v=>zdi.l1 f t _ k s v) 256 (fun i s=>∀n,n<256→s.has n=(decide (n<i)&&(Cl.row f t).has n)) ?_ ?_ _ (by intro n _;simp [has_zero])
 ·intro i s hi hs;refine .inr ⟨if (decide (f≤(i:Int))&&decide ((i:Int)≤t))=true then s.put i else s, ?_,fun k h=>?_⟩
  ·intro n hn;split
   ·rename_i hc
    rw [has_put hi,hs n hn,zjy hn]
    by_cases e:i=n
    ·subst e;simp [hc]
    ·simp only [e,decide_false,Bool.or_false]
     congr 1
     apply decide_eq_decide.2;omega
   ·rename_i hc
    rw [hs n hn,zjy hn]
    by_cases e:i=n
    ·subst e;simp [hc]
    ·congr 1
     apply decide_eq_decide.2;omega
  ·refine ⟨fun _=>?_,fun h=>absurd (by omega) (df h)⟩;rw [show ((i:Int) % 256)=i by omega];refine ⟨_,rfl,fun hc=>?_,fun hc=>?_⟩
   ·rw [if_pos hc] at h;refine ⟨s.put i, ?_,zh (by omega) (by omega),h⟩;have:=class_Add_in (a:=s) (l:=[(i:Int)]) (by simpa using u8_nat hi) (by simp);simpa [Cl.addL] using this
   ·rw [if_neg (by simp [hc])] at h;exact ⟨zh (by omega) (by omega),h⟩
 ·intro s hs k;refine ⟨fun h=>absurd (dt h) (by omega),fun _=>?_⟩;show Cl.row f t=s;apply Cl.ext;intro c hc;rw [hs c hc];simp [hc]
theorem words_up {P:Nat→Cl→Int→Prop} {a r:Cl} (g:Nat→Nat→Nat)
  (hr:∀i,i<4→r.word i=g i (a.word i))
  (hs:∀k (i:Nat) (s:Cl) (v:Int),i<4→s.word i=a.word i→v=((g i (a.word i):Nat):Int)→P k (s.setw (i:Int) v) ((i:Int)+1)→P (k+1) s (i:Int))
  (hx:∀k,P (k+1) r 4):∃k,P k a 0:=by
 refine zhe (P:=P) 4 (fun i s=>∀j,j<4→s.word j=if j<i then r.word j else a.word j) ?_ ?_ a (by intro j hj;simp)
 ·intro i s hi h;have hv:((g i (a.word i):Nat):Int).toNat<2 ^ 64:=by rw [Int.toNat_natCast,← hr i hi];exact r.word_lt i
  refine .inr ⟨s.setw (i:Int) ((g i (a.word i):Nat):Int),fun j hj=>?_,fun k hk=>hs k i s _ hi (by rw [h i hi];simp) rfl hk⟩;rw [zm4 hv j hj,h j hj]
  by_cases e:j=i
  ·subst e;simp [hr j hj]
  ·rw [if_neg e]
   by_cases e2:j<i
   ·rw [if_pos e2,if_pos (by omega)]
   ·rw [if_neg e2,if_neg (by omega)]
 ·intro s h k;have:s=r:=Cl.ext_words fun i hi=>by rw [h i hi,if_pos hi]
  subst this;exact hx k
theorem zid {r:Cl} {i v:Nat} (hi:i<4) (hv:v<2 ^ 64) (h:∀j,j<64→r.has (64*i+j)=v.testBit j):r.word i=v:=by
 apply Nat.eq_of_testBit_eq;intro j;rw [Cl.word_bit]
 by_cases hj:j<64
 ·simp [hj,h j hj]
 ·have:v<2 ^ j:=Nat.lt_of_lt_of_le hv (Nat.pow_le_pow_right (by omega) (by omega));simp [hj,Nat.testBit_lt_two_pow this]
theorem ref01_Has_in {a:Cl} {n:Nat} (hn:n<256):zcq a (n:Int) (a.has n):=by
 refine ⟨by omega,⟨by omega,by omega⟩, ?_⟩;have hw:Cl.w a ((n:Int) / 64)=((a.word (n / 64):Nat):Int):=by
  rw [show ((n:Int) / 64)=((n / 64:Nat):Int) by omega];rfl
 rw [hw];refine zhe (P:=fun k (s:Int) v=>zcq.l1 (n:Int) _ k s v) (n % 64) (fun i s=>s=((a.word (n / 64) / 2 ^ i:Nat):Int)) ?_ ?_ _ (by simp)
 ·rintro i s hi rfl;refine .inr ⟨_,rfl,fun k h=>⟨by omega,fun _=>⟨zh (by omega) (by omega), ?_⟩,fun h=>absurd (by omega) (df h)⟩⟩;rw [Nat.pow_succ,← Nat.div_div_eq_div_mul,Int.natCast_ediv] at h;exact h
 ·rintro s rfl k;refine ⟨by omega,fun h=>absurd (dt h) (by omega),fun _=>?_⟩;show a.has n=_;rw [has_w hn,Nat.testBit_eq_decide_div_mod_eq];rcases Nat.mod_two_eq_zero_or_one (a.word (n / 64) / 2 ^ (n % 64)) with h | h
  ·rw [h,show (((a.word (n / 64) / 2 ^ (n % 64):Nat):Int) % 2)=0 by omega];rfl
  ·rw [h,show (((a.word (n / 64) / 2 ^ (n % 64):Nat):Int) % 2)=1 by omega];rfl
theorem zlv {a:Cl} {c:Int} (hc:InR .u8 c):zcq a c (a.has c.toNat):=by
 obtain ⟨n,hn,rfl⟩:=u8_of hc;simpa using ref01_Has_in (a:=a) hn
theorem ref01_Of_l2 {l:List Bool} (hl:l.length=256) {w:Nat} (hw:w<4) {X:Cl→Prop} {s:Cl} (h0:s.word w=0) (hX:∀t:Cl,(∀j,j<4→t.word j=if j=w then zei (fun j=>l.getD (64*w+j) false) 64 else s.word j)→X t):
  ∃k,zbo.l2 l (w:Int) X k s 1 0:=by
 refine zhe (P:=fun k (s:Cl × Int) v=>zbo.l2 l (w:Int) X k s.1 s.2 v) 64
  (fun i t=>(∀j,j<4→t.1.word j=if j=w then zei (fun j=>l.getD (64*w+j) false) i else s.word j)∧t.2=((2 ^ i % 2 ^ 64:Nat):Int)) ?_ ?_ (s,1) ?_
 ·rintro i ⟨t,b⟩ hi ⟨h1,h2⟩;simp only at h1 h2;subst h2;have hb:=zoa (fun j=>l.getD (64*w+j) false) (i+1);have hp:2 ^ (i+1)≤2 ^ 64:=Nat.pow_le_pow_right (by omega) (by omega);have hp2:2 ^ i<2 ^ 64:=Nat.pow_lt_pow_right (by omega) hi;have hbit:IntKind.wrap .u64 (((2 ^ i % 2 ^ 64:Nat):Int)*2)=((2 ^ (i+1) % 2 ^ 64:Nat):Int):=by
   rw [zma,Nat.mod_eq_of_lt hp2,Nat.pow_succ];omega
  have hat:at? l (64*(w:Int)+(i:Int))=some (l.getD (64*w+i) false):=by
   rw [show (64*(w:Int)+(i:Int))=((64*w+i:Nat):Int) by omega,zbn,List.getElem?_eq_getElem (by omega)];simp [List.getD,List.getElem?_eq_getElem (show 64*w+i<l.length by omega)]
  cases he:l.getD (64*w+i) false
  ·refine .inr ⟨(t,((2 ^ (i+1) % 2 ^ 64:Nat):Int)),⟨fun j hj=>?_,rfl⟩,fun k h=>⟨fun _=>⟨zh (by omega) (by omega),zh (by omega) (by omega),_,hat,fun hc=>(by rw [he] at hc;cases hc),fun _=>⟨zh (by omega) (by omega), ?_⟩⟩,fun h=>absurd (by omega) (df h)⟩⟩
   ·simp only;rw [h1 j hj];split
    ·simp only [zei,he,cond_false]
    ·rfl
   ·rw [hbit];exact h
  ·refine .inr ⟨(t.setw (w:Int) ((zei (fun j=>l.getD (64*w+j) false) (i+1):Nat):Int),((2 ^ (i+1) % 2 ^ 64:Nat):Int)),⟨fun j hj=>?_,rfl⟩,fun k h=>⟨fun _=>⟨zh (by omega) (by omega),zh (by omega) (by omega),_,hat,fun _=>⟨⟨by omega,by omega⟩,⟨by omega,by omega⟩,zh (by omega) (by omega), ?_⟩,fun hc=>(by rw [he] at hc;cases hc)⟩,fun h=>absurd (by omega) (df h)⟩⟩
   ·simp only;rw [zm4 (by rw [Int.toNat_natCast];omega) j hj,Int.toNat_natCast];split
    ·rfl
    ·rename_i e;rw [h1 j hj,if_neg e]
   ·have hww:(Cl.w t (w:Int))=((zei (fun j=>l.getD (64*w+j) false) i:Nat):Int):=by
     show ((t.word ((w:Int).toNat):Nat):Int)=_;rw [Int.toNat_natCast,h1 w hw,if_pos rfl]
    have hsum:IntKind.wrap .u64 (Cl.w t (w:Int)+((2 ^ i % 2 ^ 64:Nat):Int))=((zei (fun j=>l.getD (64*w+j) false) (i+1):Nat):Int):=by
     have e2:zei (fun j=>l.getD (64*w+j) false) (i+1)=2 ^ i+zei (fun j=>l.getD (64*w+j) false) i:=by simp only [zei,he,cond_true]
     rw [hww,zma,Nat.mod_eq_of_lt hp2];omega
    rw [hbit,hsum];exact h
 ·rintro ⟨t,b⟩ ⟨h1,_⟩ k;exact ⟨fun h=>absurd (dt h) (by omega),fun _=>hX t h1⟩
 ·refine ⟨fun j hj=>?_,by rfl⟩;split
  ·rename_i e;subst e;simpa [zei] using h0
  ·rfl
theorem ofL_word {l:List Bool} {w:Nat} (hw:w<4):(Cl.ofL l).word w=zei (fun j=>l.getD (64*w+j) false) 64:=by
 refine zid hw (zoa _ 64) fun j hj=>?_;rw [has_ofL (by omega),zpt];simp [hj]
theorem ref01_Of_in {l:List Bool} (hl:l.length=256):zbo l (Cl.ofL l):=by
 refine zhe (P:=fun k (s:Cl) v=>zbo.l1 l _ k s v) 4 (fun i s=>∀j,j<4→s.word j=if j<i then (Cl.ofL l).word j else 0) ?_ ?_ _ ?_
 ·intro i s hi h;refine .inr ⟨Cl.ofWords (if 0<i+1 then (Cl.ofL l).word 0 else 0) (if 1<i+1 then (Cl.ofL l).word 1 else 0) (if 2<i+1 then (Cl.ofL l).word 2 else 0) (if 3<i+1 then (Cl.ofL l).word 3 else 0), ?_,fun k hk=>⟨fun _=>?_,fun h=>absurd (by omega) (df h)⟩⟩
  ·have hb:∀(c:Prop) [Decidable c] (k:Nat),(if c then (Cl.ofL l).word k else 0)<2 ^ 64:=fun c _ k=>by
    split
    ·exact Cl.word_lt _ _
    ·omega
   obtain ⟨e0,e1,e2,e3⟩:=Cl.ofWords_word (hb (0<i+1) 0) (hb (1<i+1) 1) (hb (2<i+1) 2) (hb (3<i+1) 3);intro j hj
   match j,hj with
   | 0,_=>exact e0
   | 1,_=>exact e1
   | 2,_=>exact e2
   | 3,_=>exact e3
  ·refine ref01_Of_l2 hl hi (by rw [h i hi,if_neg (by omega)]) fun t ht=>?_;refine ⟨zh (by omega) (by omega), ?_⟩;have hb:∀(c:Prop) [Decidable c] (k:Nat),(if c then (Cl.ofL l).word k else 0)<2 ^ 64:=fun c _ k=>by
    split
    ·exact Cl.word_lt _ _
    ·omega
   obtain ⟨e0,e1,e2,e3⟩:=Cl.ofWords_word (hb (0<i+1) 0) (hb (1<i+1) 1) (hb (2<i+1) 2) (hb (3<i+1) 3);have key:∀j,j<4→t.word j=if j<i+1 then (Cl.ofL l).word j else 0:=fun j hj=>by
    rw [ht j hj]
    by_cases e:j=i
    ·subst e;rw [if_pos rfl,if_pos (by omega),ofL_word hj]
    ·rw [if_neg e,h j hj]
     by_cases e2:j<i
     ·rw [if_pos e2,if_pos (by omega)]
     ·rw [if_neg e2,if_neg (by omega)]
   have:t=_:=Cl.ext_words (x:=t) (y:=Cl.ofWords (if 0<i+1 then (Cl.ofL l).word 0 else 0) (if 1<i+1 then (Cl.ofL l).word 1 else 0) (if 2<i+1 then (Cl.ofL l).word 2 else 0) (if 3<i+1 then (Cl.ofL l).word 3 else 0)) fun j hj=>by
    rw [key j hj]
    match j,hj with
    | 0,_=>exact e0.symm
    | 1,_=>exact e1.symm
    | 2,_=>exact e2.symm
    | 3,_=>exact e3.symm
   rw [this];exact hk
 ·intro s h k;refine ⟨fun h=>absurd (dt h) (by omega),fun _=>?_⟩;show Cl.ofL l=s;exact Cl.ext_words fun j hj=>by rw [h j hj,if_pos hj]
 ·intro j hj;simp [Cl.word]
theorem ofL_set {l:List Bool} {f:Nat→Bool} (h:∀n,n<256→l[n]?=some (f n)):Cl.ofL l=Cl.of f:=by
 apply Cl.ext;intro c hc;rw [has_ofL hc,Cl.of_has _ hc];simp [List.getD,h c hc]
theorem zij {f t:Int} (hf:InR .u8 f) (ht:InR .u8 t):zcp f t (Cl.row f t):=by
 obtain ⟨f,hf1,rfl⟩:=u8_of hf;obtain ⟨t,ht1,rfl⟩:=u8_of ht;refine run (P:=fun k (s:List Bool × Int)=>zcp.l1 (t:Int) _ k s.1 s.2)
  (fun s=>s.1.length=256∧∃i:Nat,s.2=i∧f≤i∧(i≤t+1∨i=f)∧∀n,n<256→s.1[n]?=some (decide (f≤n)&&decide (n<i))) (fun s=>257-s.2.toNat) ?_ (List.replicate 256 false,(f:Int)) ?_
 ·rintro ⟨l,i'⟩ ⟨hl,i,hi,h1,h2,h3⟩;simp only at hl hi h3;subst hi
  by_cases hc:i≤t
  ·refine .inr ⟨(l.set i true,((i+1:Nat):Int)),⟨by simpa using hl,i+1,rfl,by omega,by omega,fun n hn=>?_⟩, ?_,fun k h=>⟨fun _=>⟨l[i]'(by omega),by rw [zbn];exact List.getElem?_eq_getElem (by show i<l.length;omega),zh (by simp only;omega) (by simp only;omega), ?_⟩,fun h=>absurd (by show (i:Int)≤(t:Int);omega) (df h)⟩⟩
   ·simp only [List.getElem?_set];split
    ·rename_i e;subst e;simp [show i<l.length by omega,h1]
    ·rename_i e
     rw [h3 n hn];congr 2;apply decide_eq_decide.2;omega
   ·simp only [Int.toNat_natCast];omega
   ·simpa using h
  ·refine .inl fun k=>⟨fun h=>absurd (dt h) (by simp only;omega),fun _=>⟨Cl.ofL l,ref01_Of_in hl, ?_⟩⟩;rw [ofL_set h3];apply Cl.ext;intro c hc2;rw [zjy hc2,Cl.of_has _ hc2]
   by_cases e:f≤c
   ·have e3:(decide (c<i):Bool)=decide (c≤t):=decide_eq_decide.2 (by omega);rw [e3]
    congr 1
    ·apply decide_eq_decide.2;omega
    ·apply decide_eq_decide.2;omega
   ·rw [decide_eq_false (show ¬ (f:Int)≤(c:Int) by omega),decide_eq_false e];simp
 ·refine ⟨List.length_replicate,f,rfl,Nat.le_refl _,by omega,fun n hn=>?_⟩;show (List.replicate 256 false)[n]?=_;rw [List.getElem?_replicate,if_pos hn]
  by_cases e:f≤n
  ·simp [show ¬ n<f by omega]
  ·simp [e]
def zx (d:List SNode) (s:List SItem) (c:Int):List SItem × Bool:=
 match s with
 | []=>([],false)
 | x::rest=>
  if (zdo rest).2=false then ([],false)
  else match at? d x.2.1 with
   | none=>([],false)
   | some n=>
    if x.1=3 then (if zdv n.2.2.2.2.2.2 x.2.2.1=some c then ((if x.2.2.1+1<(n.2.2.2.2.2.2.length:Int) then [(3,x.2.1,x.2.2.1+1,0)] else [])++(zdo rest).1,true) else ([],false))
    else if x.1=4 then ([(1,n.2.1,0,0),(5,0,256*x.2.2.1+c,0)]++(zdo rest).1,true)
    else if n.1=8 then ([(1,n.2.1,0,0),(5,0,c,0)]++(zdo rest).1,true)
    else if n.1=9 then ([(4,x.2.1,c,0)]++(zdo rest).1,true)
    else if n.2.2.2.2.2.1.has c.toNat=true then ((zdo rest).1,true) else ([],false)
theorem zqt (s:List SItem):(zdo s).1.length≤s.length:=by unfold zdo;split <;> simp
theorem zkf (d:List SNode) (s:List SItem) (c:Int):(zx d s c).1.length≤s.length+1:=by
 cases s with
 | nil=>simp [zx]
 | cons x rest=>
  have:=zqt rest;unfold zx;simp only;split
  ·simp
  ·cases at? d x.2.1 with
   | none=>simp
   | some n=>
    simp only [List.length_cons];split
    ·split
     ·split <;> simp <;> omega
     ·simp
    ·split
     ·simp;omega
     ·split
      ·simp;omega
      ·split
       ·simp;omega
       ·split <;> simp;omega
theorem itR_form {d:List SNode} (hd:ROk d) (hl:d.length≤1000) (ht:∀n∈d,n.2.2.2.2.2.2.length≤140737488351232) {x:SItem} (hx:ze0 d x=true):ItR x:=by
 unfold ze0 at hx;split at hx
 ·rename_i h5
  simp only [Bool.and_eq_true,beq_iff_eq,decide_eq_true_eq] at hx;exact ⟨zh (by omega) (by omega),zh (by omega) (by omega),zh (by omega) (by omega),zh (by omega) (by omega)⟩
 ·cases hn:at? d x.2.1 with
  | none=>rw [hn] at hx;cases hx
  | some n=>
   rw [hn] at hx;have hb:=zbv hn;have hm:n∈d:=by
    obtain ⟨k,_,hk⟩:=zl7 hn;exact List.mem_of_getElem? hk
   have htn:=ht n hm;simp only at hx;split at hx
   ·rename_i h1
    simp only [Bool.and_eq_true,beq_iff_eq] at hx;exact ⟨zh (by omega) (by omega),zh (by omega) (by omega),zh (by omega) (by omega),zh (by omega) (by omega)⟩
   ·split at hx
    ·rename_i h2
     simp only [Bool.and_eq_true,beq_iff_eq,decide_eq_true_eq] at hx;have:=hd.rep _ n hn hx.1.1.1;exact ⟨zh (by omega) (by omega),zh (by omega) (by omega),zh (by omega) (by omega),zh (by omega) (by omega)⟩
    ·split at hx
     ·rename_i h3
      simp only [Bool.and_eq_true,beq_iff_eq,decide_eq_true_eq] at hx;exact ⟨zh (by omega) (by omega),zh (by omega) (by omega),zh (by omega) (by omega),zh (by omega) (by omega)⟩
     ·split at hx
      ·rename_i h4
       simp only [Bool.and_eq_true,beq_iff_eq,decide_eq_true_eq] at hx;exact ⟨zh (by omega) (by omega),zh (by omega) (by omega),zh (by omega) (by omega),zh (by omega) (by omega)⟩
      ·cases hx
theorem itR_all {d:List SNode} (hd:ROk d) (hl:d.length≤1000) (ht:∀n∈d,n.2.2.2.2.2.2.length≤140737488351232) {s:List SItem} (hs:zd2 d s=true):∀x∈s,ItR x:=by
 intro x hx;unfold zd2 at hs;rw [List.all_eq_true] at hs;exact itR_form hd hl ht (hs x hx)
theorem zi5 {d:List SNode} {x:SItem} {rest:List SItem} (hf:zd2 d (x::rest)=true) (hr:rdy d (x::rest)=true):∃n,at? d x.2.1=some n∧n∈d∧((x.1=1∧(n.1=2∨n.1=8∨n.1=9))∨(x.1=3∧n.1=3∧x.2.2.2=0∧0≤x.2.2.1∧x.2.2.1<(n.2.2.2.2.2.2.length:Int))∨(x.1=4∧n.1=9∧0≤x.2.2.1∧x.2.2.1≤255)):=by
 have hx:=(zdn hf).1;have h5:x.1≠5:=fun h=>by simp [rdy,h] at hr
 obtain ⟨n,hn,_⟩:=zfw hx h5;have hm:n∈d:=by
  obtain ⟨k,_,hk⟩:=zl7 hn;exact List.mem_of_getElem? hk
 refine ⟨n,hn,hm, ?_⟩;unfold ze0 at hx;rw [if_neg h5,hn] at hx;simp only [rdy,hn,Bool.or_eq_true,beq_iff_eq,Bool.and_eq_true] at hr;simp only at hx;rcases hr with (h3 | h4) | ⟨h1,h2⟩
 ·rw [if_neg (by omega),if_neg (by omega),if_pos h3] at hx;simp only [Bool.and_eq_true,beq_iff_eq,decide_eq_true_eq] at hx;exact .inr (.inl ⟨h3,hx.1.1.1,hx.1.1.2,hx.1.2,hx.2⟩)
 ·rw [if_neg (by omega),if_neg (by omega),if_neg (by omega),if_pos h4] at hx;simp only [Bool.and_eq_true,beq_iff_eq,decide_eq_true_eq] at hx;exact .inr (.inr ⟨h4,hx.1.1.1,hx.1.2,hx.2⟩)
 ·exact .inl ⟨h1,by omega⟩
theorem zn8 {s:Str} {i:Int} (h0:0≤i) (h1:i<(s.length:Int)):∃c,zdv s i=some c∧InR .u8 c:=by
 obtain ⟨x,hx,_⟩:=zob h0 h1;refine ⟨(x.toNat:Int),by unfold zdv;rw [hx];rfl,zex.2 ⟨by omega, ?_⟩⟩;have:=x.toNat_lt;omega
theorem next_Read_in {d:List SNode} (hd:ROk d) (hl:d.length≤1000) (ht:∀n∈d,n.2.2.2.2.2.2.length≤140737488351232) {s:List SItem} (hs:s.length≤1000) (hf:zd2 d s=true) (hr:rdy d s=true) {c:Int} (hc:InR .u8 c):zkl d s c (zx d s c):=by
 cases s with
 | nil=>exact ⟨fun _=>rfl,fun h=>by simp at h⟩
 | cons x rest=>
  have hls:rest.length≤1000:=by simp at hs;omega
  have hcr:=zex.1 hc;obtain ⟨n,hn,hm,hk⟩:=zi5 hf hr;have htn:=ht n hm;have hlow:=zq2 hls (itR_all hd hl ht (zdn hf).2);have hlen:=zqt rest;refine ⟨fun h=>by simp at h;omega,fun _=>⟨⟨by omega,by simp;omega⟩,zdo rest,hlow,x,rfl,fun hb=>?_,fun hb=>⟨x,rfl,n,hn,x,rfl, ?_⟩⟩⟩
  ·have hmh:zhm gfmS x.1=true:=by rcases hk with ⟨h,_⟩ | ⟨h,_⟩ | ⟨h,_⟩ <;> rw [h] <;> rfl
   rw [hmh] at hb;simp only [Bool.not_true,Bool.or_false,Bool.not_eq_true'] at hb;unfold zx;simp only;rw [if_pos hb]
  ·simp only [Bool.or_eq_false_iff,Bool.not_eq_false'] at hb;have hb1:¬ (zdo rest).2=false:=by rw [hb.1];simp
   have cat:∀l:List SItem,l.length≤2→zg [l,(zdo rest).1] (l++(zdo rest).1):=fun l h=>zpr (by omega) (by omega);rcases hk with ⟨h1,h2⟩ | ⟨h3,h4,h5,h6,h7⟩ | ⟨h4,h9,h6,h7⟩
   ·-- a node
    have e1:zd6 gfmS x.1 none=zd6 gfmS 1 none:=by rw [h1]
    rw [e1];rcases h2 with h2 | h2 | h2
    ·by_cases hh:n.2.2.2.2.2.1.has c.toNat=true
     ·have hrd:zx d (x::rest) c=([]++(zdo rest).1,true):=by
       unfold zx;simp only [hn];rw [if_neg hb1,if_neg (by omega),if_neg (by omega),if_neg (by omega),if_neg (by omega),if_pos hh];rfl
      rw [hrd];refine ⟨([],true),.inl ⟨rfl,fun h=>by simp [h2] at h,fun _=>⟨fun h=>by simp [h2] at h,fun _=>⟨_,zl0 hc,by rw [hh]⟩⟩⟩,fun h=>by simp at h,fun _=>⟨_,cat [] (by simp),rfl⟩⟩
     ·have hh':n.2.2.2.2.2.1.has c.toNat=false:=by simpa using hh
      have hrd:zx d (x::rest) c=([],false):=by
       unfold zx;simp only [hn];rw [if_neg hb1,if_neg (by omega),if_neg (by omega),if_neg (by omega),if_neg (by omega),if_neg hh]
      rw [hrd];exact ⟨([],false),.inl ⟨rfl,fun h=>by simp [h2] at h,fun _=>⟨fun h=>by simp [h2] at h,fun _=>⟨_,zl0 hc,by rw [hh']⟩⟩⟩,fun _=>rfl,fun h=>by simp at h⟩
    ·have hrd:zx d (x::rest) c=([(1,n.2.1,0,0),(5,0,c,0)]++(zdo rest).1,true):=by
      unfold zx;simp only [hn];rw [if_neg hb1,if_neg (by omega),if_neg (by omega),if_pos h2]
     rw [hrd];exact ⟨([(1,n.2.1,0,0),(5,0,c,0)],true),.inl ⟨rfl,fun _=>⟨_,rfl,rfl⟩,fun h=>by simp [h2] at h⟩,fun h=>by simp at h,fun _=>⟨_,cat _ (by simp),rfl⟩⟩
    ·have hrd:zx d (x::rest) c=([(4,x.2.1,c,0)]++(zdo rest).1,true):=by
      unfold zx;simp only [hn];rw [if_neg hb1,if_neg (by omega),if_neg (by omega),if_neg (by omega),if_pos h2]
     rw [hrd];exact ⟨([(4,x.2.1,c,0)],true),.inl ⟨rfl,fun h=>by simp [h2] at h,fun _=>⟨fun _=>rfl,fun h=>by simp [h2] at h⟩⟩,fun h=>by simp at h,fun _=>⟨_,cat _ (by simp),rfl⟩⟩
   ·-- a text
    have e1:zd6 gfmS x.1 none=zd6 gfmS 3 none:=by rw [h3]
    rw [e1];obtain ⟨b,hb2,_⟩:=zn8 h6 h7;obtain ⟨xk,xi,xl,xh⟩:=x;simp only at h3 h5 h6 h7 hb2 hn;subst h3;subst h5
    by_cases hbc:b=c
    ·subst hbc
     by_cases hlast:xl+1<(n.2.2.2.2.2.2.length:Int)
     ·have hrd:zx d ((3,xi,xl,0)::rest) b=([(3,xi,xl+1,0)]++(zdo rest).1,true):=by
       unfold zx;simp only [hn];rw [if_neg hb1,if_pos trivial,if_pos hb2,if_pos hlast]
      rw [hrd];refine ⟨([(3,xi,xl+1,0)],true),.inr (.inl ⟨rfl,zh (by show _≤xl+1;omega) (by show xl+1≤_;omega),_,rfl,fun h=>?_,fun _=>⟨b,hb2,by simp⟩⟩),fun h=>by simp at h,fun _=>⟨_,cat _ (by simp),rfl⟩⟩;simp at h;omega
     ·have hrd:zx d ((3,xi,xl,0)::rest) b=([]++(zdo rest).1,true):=by
       unfold zx;simp only [hn];rw [if_neg hb1,if_pos trivial,if_pos hb2,if_neg hlast]
      rw [hrd];refine ⟨([],true),.inr (.inl ⟨rfl,zh (by show _≤xl+1;omega) (by show xl+1≤_;omega),_,rfl,fun _=>⟨b,hb2,by simp⟩,fun h=>?_⟩),fun h=>by simp at h,fun _=>⟨_,cat _ (by simp),rfl⟩⟩;simp at h;omega
    ·have hne:¬ zdv n.2.2.2.2.2.2 xl=some c:=by rw [hb2];simpa using hbc
     have hrd:zx d ((3,xi,xl,0)::rest) c=([],false):=by
      unfold zx;simp only [hn];rw [if_neg hb1,if_pos trivial,if_neg hne]
     rw [hrd];have hbeq:(b==c)=false:=by simpa using hbc
     by_cases hlast:xl+1=(n.2.2.2.2.2.2.length:Int)
     ·refine ⟨([],false),.inr (.inl ⟨rfl,zh (by show _≤xl+1;omega) (by show xl+1≤_;omega),_,rfl,fun _=>⟨b,hb2,by rw [hbeq]⟩,fun h=>?_⟩),fun _=>rfl,fun h=>by simp at h⟩;simp at h;omega
     ·refine ⟨([(3,xi,xl+1,0)],false),.inr (.inl ⟨rfl,zh (by show _≤xl+1;omega) (by show xl+1≤_;omega),_,rfl,fun h=>?_,fun _=>⟨b,hb2,by rw [hbeq]⟩⟩),fun _=>rfl,fun h=>by simp at h⟩;simp at h;omega
   ·-- half a number
    have e1:zd6 gfmS x.1 none=zd6 gfmS 4 none:=by rw [h4]
    rw [e1];have hrd:zx d (x::rest) c=([(1,n.2.1,0,0),(5,0,256*x.2.2.1+c,0)]++(zdo rest).1,true):=by
     unfold zx;simp only [hn];rw [if_neg hb1,if_neg (by omega),if_pos h4]
    rw [hrd];exact ⟨([(1,n.2.1,0,0),(5,0,256*x.2.2.1+c,0)],true),.inr (.inr ⟨rfl,zh (by show _≤256*x.2.2.1;omega) (by show 256*x.2.2.1≤_;omega),zh (by show _≤256*x.2.2.1+c;omega) (by show 256*x.2.2.1+c≤_;omega),_,rfl,rfl⟩),fun h=>by simp at h,fun _=>⟨_,cat _ (by simp),rfl⟩⟩
theorem zp8 {d:List SNode} (hd:ROk d) (hl:d.length≤1000) (ht:∀n∈d,n.2.2.2.2.2.2.length≤140737488351232) {s:List SItem} (hs:s.length≤1000) (hf:zd2 d s=true) (hr:rdy d s=true) {c:Int} (hc:InR .u8 c):zpf d s c (zx d s c):=by
 cases s with
 | nil=>exact ⟨fun _=>rfl,fun h=>by simp at h⟩
 | cons x rest=>
  have hls:rest.length≤1000:=by simp at hs;omega
  have hcr:=zex.1 hc;obtain ⟨n,hn,hm,hk⟩:=zi5 hf hr;have htn:=ht n hm;have hlow:=zor hls (itR_all hd hl ht (zdn hf).2);have hlen:=zqt rest;refine ⟨fun h=>by simp at h;omega,fun _=>⟨⟨by omega,by simp;omega⟩,zdo rest,hlow,fun hb=>?_,fun hb=>⟨x,rfl,n,hn, ?_⟩⟩⟩
  ·simp only [Bool.not_eq_true'] at hb;unfold zx;simp only;rw [if_pos hb]
  ·simp only [Bool.not_eq_false'] at hb;have hb1:¬ (zdo rest).2=false:=by rw [hb];simp
   rcases hk with ⟨h1,h2⟩ | ⟨h3,h4,h5,h6,h7⟩ | ⟨h4,h9,h6,h7⟩
   ·refine ⟨fun h=>by simp [h1] at h,fun _=>⟨fun h=>by simp [h1] at h,fun _=>?_⟩⟩;rcases h2 with h2 | h2 | h2
    ·refine ⟨fun h=>by simp [h2] at h,fun _=>⟨fun h=>by simp [h2] at h,fun _=>⟨_,zlv hc,fun hh=>?_,fun hh=>⟨by simp;omega, ?_⟩⟩⟩⟩
     ·have hh':¬ n.2.2.2.2.2.1.has c.toNat=true:=by simpa using hh
      unfold zx;simp only [hn];rw [if_neg hb1,if_neg (by omega),if_neg (by omega),if_neg (by omega),if_neg (by omega),if_neg hh']
     ·have hh':n.2.2.2.2.2.1.has c.toNat=true:=by simpa using hh
      unfold zx;simp only [hn];rw [if_neg hb1,if_neg (by omega),if_neg (by omega),if_neg (by omega),if_neg (by omega),if_pos hh'];rfl
    ·refine ⟨fun _=>⟨by simp;omega, ?_⟩,fun h=>by simp [h2] at h⟩;unfold zx;simp only [hn];rw [if_neg hb1,if_neg (by omega),if_neg (by omega),if_pos h2]
    ·refine ⟨fun h=>by simp [h2] at h,fun _=>⟨fun _=>⟨by simp;omega, ?_⟩,fun h=>by simp [h2] at h⟩⟩;unfold zx;simp only [hn];rw [if_neg hb1,if_neg (by omega),if_neg (by omega),if_neg (by omega),if_pos h2]
   ·obtain ⟨b,hb2,_⟩:=zn8 h6 h7;refine ⟨fun _=>⟨b,hb2,fun hbc=>?_,fun hbc=>⟨zh (by omega) (by omega),_,rfl,fun hl2=>⟨zh (by omega) (by omega),by simp;omega, ?_⟩,fun hl2=>⟨by simp;omega, ?_⟩⟩⟩,fun h=>by simp [h3] at h⟩
    ·have hne:¬ zdv n.2.2.2.2.2.2 x.2.2.1=some c:=by rw [hb2];simpa using hbc
     unfold zx;simp only [hn];rw [if_neg hb1,if_pos h3,if_neg hne]
    ·have he:zdv n.2.2.2.2.2.2 x.2.2.1=some c:=by rw [hb2];simpa using hbc
     unfold zx;simp only [hn];rw [if_neg hb1,if_pos h3,if_pos he,if_pos (dt hl2)]
    ·have he:zdv n.2.2.2.2.2.2 x.2.2.1=some c:=by rw [hb2];simpa using hbc
     unfold zx;simp only [hn];rw [if_neg hb1,if_pos h3,if_pos he,if_neg (df hl2)]
   ·refine ⟨fun h=>by simp [h4] at h,fun _=>⟨fun _=>⟨zh (by omega) (by omega),zh (by omega) (by omega),by simp;omega, ?_⟩,fun h=>by simp [h4] at h⟩⟩;unfold zx;simp only [hn];rw [if_neg hb1,if_neg (by omega),if_pos h4]
def zpm (c:Int) (n:SNode):SNode:=(n.1,if 4≤n.1 then n.2.1+c else n.2.1,if n.1=4∨n.1=5 then n.2.2.1+c else n.2.2.1,n.2.2.2.1,n.2.2.2.2.1,n.2.2.2.2.2.1,n.2.2.2.2.2.2)
def zof (c:Int) (l:List SNode):List SNode:=l.map (zpm c)
theorem zh0 (c:Int) (l:List SNode):(zof c l).length=l.length:=List.length_map ..
theorem moved_in {l:List SNode} {c:Int} (hl:l.length≤1000) (hr:∀n∈l,InR .i64 (n.2.1+c)∧InR .i64 (n.2.2.1+c)):zz l c (zof c l):=by
 refine zhe (P:=fun k (o:List SNode) v=>zz.l1 l c _ k o v) l.length (fun i o=>o=zof c (l.take i)) ?_ ?_ [] (by simp [zof])
 ·rintro i o hi rfl;have hat:at? l (i:Int)=some l[i]:=by rw [zbn];simp [hi]
  obtain ⟨r1,r2⟩:=hr _ (List.getElem_mem hi);have e:zof c (l.take (i+1))=zof c (l.take i)++[zpm c l[i]]:=by
   unfold zof;rw [List.take_succ_eq_append_getElem hi,List.map_append];rfl
  have hll:(zof c (l.take i)).length=i:=by rw [zh0];simp;omega
  refine .inr ⟨_,rfl,fun k hk=>⟨fun _=>⟨l[i],hat, ?_⟩,fun h=>absurd (by omega) (df h)⟩⟩;rw [e] at hk;have last:∀w:SNode,w=zpm c l[i]→zz.j2 (zz.l1 l c (zz.j1 (zof c l)) k) (zof c (l.take i)) (i:Int) w:=by
   rintro w rfl;exact ⟨by rw [hll];simp;omega,zh (by omega) (by omega),hk⟩
  generalize l[i]=n at *;obtain ⟨k0,a,b,lo,hi2,cl,tx⟩:=n;simp only at r1 r2;refine ⟨fun h4=>⟨r1,fun h5=>⟨r2,last _ ?_⟩,fun h5=>last _ ?_⟩,fun h4=>⟨fun h5=>?_,fun h5=>last _ ?_⟩⟩
  ·have:=dt h4;simp only at this;simp only [Bool.or_eq_true,beq_iff_eq] at h5;simp only [zpm,if_pos this,if_pos h5]
  ·have:=dt h4;simp only at this;simp only [Bool.or_eq_false_iff,beq_eq_false_iff_ne] at h5;have h5':¬ (k0=4∨k0=5):=by omega
   simp only [zpm,if_pos this,if_neg h5']
  ·exfalso;have:=df h4;simp only at this;simp only [Bool.or_eq_true,beq_iff_eq] at h5;omega
  ·have:=df h4;simp only at this;have h5':¬ (k0=4∨k0=5):=by omega
   simp only [zpm,if_neg this,if_neg h5']
 ·rintro o rfl k;refine ⟨fun h=>absurd (dt h) (by omega),fun _=>?_⟩;show zof c l=zof c (l.take l.length);rw [List.take_length]
theorem movN_zero (n:SNode):zpm 0 n=n:=by
 obtain ⟨k,a,b,r⟩:=n;simp [zpm]
theorem movL_zero (l:List SNode):zof 0 l=l:=by
 unfold zof;rw [show zpm 0=id from funext movN_zero,List.map_id]
def zjr (k:Int) (a b:List SNode):List SNode:=(a++zof (a.length:Int) b)++[(k,(a.length:Int)-1,((a.length:Int)+(b.length:Int))-1,0,0,(0#256),([]:Str))]
def wrapD (k:Int) (a:List SNode):List SNode:=a++[(k,(a.length:Int)-1,0,0,0,(0#256),([]:Str))]
structure Sma (d:List SNode):Prop where
 a:∀n∈d,0≤n.2.1∧n.2.1≤(d.length:Int)
 b:∀n∈d,0≤n.2.2.1∧n.2.2.1≤(d.length:Int)
theorem Tr.parts {l:List SNode} {f i:Int} (h:Tr l f i) {n:SNode} (hn:at? l i=some n):(0≤n.2.1∧n.2.1≤i)∧(0≤n.2.2.1∧n.2.2.1≤i):=by
 have hb:=zbv hn;cases h with
 | leaf he hk hx h0=>rw [hn] at he;cases he;omega
 | one he hk ha hb hr h=>rw [hn] at he;cases he;have:=h.le;omega
 | two he hk ha hb h1 h2=>rw [hn] at he;cases he;have:=h1.le;have:=h2.le;omega
theorem mem_at {α:Type} {l:List α} {x:α} (h:x∈l):∃i:Int,at? l i=some x:=by
 obtain ⟨i,hi,e⟩:=List.mem_iff_getElem.1 h;exact ⟨(i:Int),by rw [zbn];simp [hi,e]⟩
theorem Tr.sma {d:List SNode} (h:Tr d 0 ((d.length:Int)-1)):Sma d:=by
 constructor
 all_goals
  intro n hn;obtain ⟨i,hi⟩:=mem_at hn;obtain ⟨g,hg⟩:=h.at hi;have:=hg.parts hi;have:=zbv hi;omega
theorem moved_ok {d:List SNode} (h:Tr d 0 ((d.length:Int)-1)) (hl:d.length≤1000) {c:Int} (h0:0≤c) (h1:c≤1000):zz d c (zof c d):=
 moved_in hl fun n hn=>by
  have:=h.sma.a n hn;have:=h.sma.b n hn;exact ⟨zh (by omega) (by omega),zh (by omega) (by omega)⟩
theorem Pair_in {k:Int} {a b:List SNode} (ha:Tr a 0 ((a.length:Int)-1)) (hb:Tr b 0 ((b.length:Int)-1)) (la:a.length≤1000) (lb:b.length≤1000):zhj k a b (zjr k a b):=by
 refine ⟨_,moved_ok ha la (Int.le_refl 0) (by omega),_,moved_ok hb lb (c:=(a.length:Int)) (by omega) (by omega),by rw [zh0,zh0];omega,zh (by omega) (by omega),zh (by omega) (by omega),zh (by omega) (by omega),by rw [List.length_append,zh0,zh0];simp;omega, ?_⟩;rw [movL_zero];rfl
structure Emb (l l':List SNode) (c:Int):Prop where
 nn:0≤c
 at':∀i n,at? l i=some n→at? l' (i+c)=some (zpm c n)
theorem Tr.emb {l l':List SNode} {c:Int} (h:Emb l l' c) {f i:Int} (t:Tr l f i):Tr l' (f+c) (i+c):=by
 induction t with
 | leaf he hk hx h0=>
  rename_i i e
  have e1:zpm c e=e:=by
   obtain ⟨k,a,b,r⟩:=e;simp only at hk;simp only [zpm,if_neg (show ¬ 4≤k by omega),if_neg (show ¬ (k=4∨k=5) by omega)]
  exact .leaf (e1 ▸ h.at' _ _ he) hk hx h0
 | one he hk ha hb hr t ih=>
  rename_i f i e
  refine .one (h.at' _ _ he) hk ?_ ?_ hr (by have e:i-1+c=i+c-1:=by omega
                                             rw [← e];exact ih)
  ·simp only [zpm];rw [if_pos (by omega)];omega
  ·simp only [zpm];rw [if_neg (by omega)];exact hb
 | two he hk ha hb t1 t2 i1 i2=>
  rename_i f p i e
  refine .two (p:=p+c) (h.at' _ _ he) hk ?_ ?_ (by have e:i-1+c=i+c-1:=by omega
                                                   rw [← e];exact i1) (by have e:p-1+c=p+c-1:=by omega
                                                                          rw [← e];exact i2)
  ·simp only [zpm];rw [if_pos (by omega)];omega
  ·simp only [zpm];rw [if_pos (by omega)];omega
theorem Emb.get {l l':List SNode} {c:Int} (h:Emb l l' c) {i:Int} {n:SNode} (hn:at? l i=some n):∃m,at? l' (i+c)=some m∧m.1=n.1∧(4≤n.1→m.2.1=n.2.1+c)∧(n.1=4∨n.1=5→m.2.2.1=n.2.2.1+c)∧m.2.2.2.1=n.2.2.2.1∧m.2.2.2.2.1=n.2.2.2.2.1:=
 ⟨zpm c n,h.at' _ _ hn,rfl,fun h=>if_pos h,fun h=>if_pos h,rfl,rfl⟩
theorem nz_emb {l l':List SNode} {c:Int} (h:Emb l l' c) (hl:NOk l) (hl':NOk l'):∀(k:Nat) (i:Int) (n:SNode),i<(k:Int)→at? l i=some n→nz l' (i+c)=nz l i
 | 0,i,n,hi,hn=>by have:=zbv hn;omega
 | k+1,i,n,hi,hn=>by
  have ih:=nz_emb h hl hl' k;obtain ⟨m,hm,f1,f2,f3,f4,f5⟩:=h.get hn;rw [nz_atN hl hn,nz_atN hl' hm,f1,f4]
  by_cases h1:n.1=1
  ·rw [if_pos h1,if_pos h1]
  ·rw [if_neg h1,if_neg h1]
   by_cases h4:n.1=4
   ·obtain ⟨⟨a,b⟩,c',e⟩:=hl.two _ n hn (.inl h4);obtain ⟨m1,hm1⟩:=zdq hn a b;obtain ⟨m2,hm2⟩:=zdq hn c' e;rw [if_pos h4,if_pos h4,f2 (by omega),f3 (.inl h4),ih _ m1 (by omega) hm1,ih _ m2 (by omega) hm2]
   ·rw [if_neg h4,if_neg h4]
    by_cases h5:n.1=5
    ·obtain ⟨⟨a,b⟩,c',e⟩:=hl.two _ n hn (.inr h5);obtain ⟨m1,hm1⟩:=zdq hn a b;obtain ⟨m2,hm2⟩:=zdq hn c' e;rw [if_pos h5,if_pos h5,f2 (by omega),f3 (.inr h5),ih _ m1 (by omega) hm1,ih _ m2 (by omega) hm2]
    ·rw [if_neg h5,if_neg h5]
     by_cases h6:n.1=6
     ·rw [if_pos h6,if_pos h6]
     ·rw [if_neg h6,if_neg h6]
      by_cases h7:n.1=7
      ·obtain ⟨a,b⟩:=hl.one _ n hn (.inr (.inl h7));obtain ⟨m1,hm1⟩:=zdq hn a b;rw [if_pos h7,if_pos h7,f2 (by omega),ih _ m1 (by omega) hm1]
      ·rw [if_neg h7,if_neg h7]
theorem PM_rng {d:List SNode} (hd:ROk d):∀(k:Nat) (i:Int),i<(k:Int)→∀p∈pm d i,∃x q,p=x::q∧0≤x.2.1∧x.2.1<(d.length:Int)
 | 0,i,hi,p,hp=>by
  have:at? d i=none:=at_none (.inl (by omega));unfold pm at hp;rw [ziz hd d.length 0 i] at hp
  ·simp [PM] at hp
  ·omega
  ·omega
 | k+1,i,hi,p,hp=>by
  have ih:=PM_rng hd k;cases hn:at? d i with
  | none=>
   exfalso;unfold pm at hp;cases hdl:d.length with
   | zero=>rw [hdl] at hp;simp [PM] at hp
   | succ m=>rw [hdl] at hp;simp [PM,hn] at hp
  | some n=>
   have hb:=zbv hn;have e1:pm d i=(PM d d.length i).1:=rfl;rw [e1,zjh hd hn] at hp;have app:∀(a:Int) (y:SItem),a<i→p∈(pm d a).map (·++[y])→∃x q,p=x::q∧0≤x.2.1∧x.2.1<(d.length:Int):=by
    intro a y ha h;obtain ⟨q,hq,rfl⟩:=List.mem_map.1 h;obtain ⟨x,q',rfl,h1,h2⟩:=ih a (by omega) q hq;exact ⟨x,q'++[y],rfl,h1,h2⟩
   by_cases h1:n.1=1
   ·simp [h1] at hp
   ·by_cases h3:n.1=3
    ·simp [h3] at hp;subst hp;exact ⟨_,_,rfl,hb⟩
    ·by_cases h4:n.1=4
     ·obtain ⟨⟨a,b⟩,c',e⟩:=hd.two _ n hn (.inl h4);rw [if_neg h1,if_neg h3,if_pos h4] at hp;rcases List.mem_append.1 hp with hp | hp
      ·exact app _ _ b hp
      ·obtain ⟨l,hl,hp⟩:=List.mem_flatten.1 hp;rw [List.mem_replicate.1 hl |>.2] at hp;exact ih _ (by omega) p hp
     ·by_cases h5:n.1=5
      ·obtain ⟨⟨a,b⟩,c',e⟩:=hd.two _ n hn (.inr h5);rw [if_neg h1,if_neg h3,if_neg h4,if_pos h5] at hp;rcases List.mem_append.1 hp with hp | hp
       ·exact ih _ (by omega) p hp
       ·exact ih _ (by omega) p hp
      ·by_cases h6:n.1=6
       ·obtain ⟨a,b⟩:=hd.one _ n hn (.inl h6);rw [if_neg h1,if_neg h3,if_neg h4,if_neg h5,if_pos h6] at hp;exact app _ _ b hp
       ·by_cases h7:n.1=7
        ·obtain ⟨a,b⟩:=hd.one _ n hn (.inr (.inl h7));rw [if_neg h1,if_neg h3,if_neg h4,if_neg h5,if_neg h6,if_pos h7] at hp;simp only at hp;split at hp
         ·exact app _ _ b hp
         ·cases hp
        ·rw [if_neg h1,if_neg h3,if_neg h4,if_neg h5,if_neg h6,if_neg h7] at hp;rw [List.mem_singleton] at hp;subst hp;exact ⟨_,_,rfl,hb⟩
theorem at_left {α:Type} {a b:List α} {i:Int} {x:α} (h:at? a i=some x):at? (a++b) i=some x:=by
 obtain ⟨k,rfl,hk⟩:=zl7 h;rw [zbn,List.getElem?_append_left (List.getElem?_eq_some_iff.1 hk).1];exact hk
theorem at_right {α:Type} {a b:List α} {i:Int} {x:α} (h:at? b i=some x):at? (a++b) (i+(a.length:Int))=some x:=by
 obtain ⟨k,rfl,hk⟩:=zl7 h;have e:(k:Int)+(a.length:Int)=((k+a.length:Nat):Int):=by omega
 rw [e,zbn,List.getElem?_append_right (by omega),Nat.add_sub_cancel];exact hk
theorem at_app {α:Type} {a b:List α} {i:Int} {x:α} (h:at? (a++b) i=some x):at? a i=some x∨at? b (i-(a.length:Int))=some x:=by
 obtain ⟨k,rfl,hk⟩:=zl7 h;rcases Nat.lt_or_ge k a.length with hlt | hge
 ·rw [List.getElem?_append_left hlt] at hk;exact .inl (by rw [zbn];exact hk)
 ·rw [List.getElem?_append_right hge] at hk;have e:(k:Int)-(a.length:Int)=((k-a.length:Nat):Int):=by omega
  exact .inr (by rw [e,zbn];exact hk)
theorem at_one {α:Type} {x y:α} {i:Int} (h:at? [x] i=some y):i=0∧y=x:=by
 have hb:=zbv h;simp at hb;obtain rfl:i=0:=by omega
 cases h;exact ⟨rfl,rfl⟩
theorem at_movL {c:Int} {l:List SNode} {i:Int} {n:SNode} (h:at? l i=some n):at? (zof c l) i=some (zpm c n):=by
 obtain ⟨k,rfl,hk⟩:=zl7 h;rw [zbn];unfold zof;rw [List.getElem?_map,hk];rfl
theorem at_movL_inv {c:Int} {l:List SNode} {i:Int} {n:SNode} (h:at? (zof c l) i=some n):∃m,at? l i=some m∧n=zpm c m:=by
 obtain ⟨k,rfl,hk⟩:=zl7 h;unfold zof at hk;rw [List.getElem?_map] at hk;obtain ⟨m,h1,h2⟩:=Option.map_eq_some_iff.1 hk;exact ⟨m,by rw [zbn];exact h1,h2.symm⟩
theorem emb_left {a:List SNode} (r:List SNode):Emb a (a++r) 0:=⟨Int.le_refl _,fun i n h=>by rw [movN_zero,Int.add_zero];exact at_left h⟩
theorem emb_mid {a b r:List SNode}:Emb b ((a++zof (a.length:Int) b)++r) (a.length:Int):=⟨by omega,fun i n h=>at_left (at_right (at_movL h))⟩
theorem pair_len (k:Int) (a b:List SNode):(zjr k a b).length=a.length+b.length+1:=by simp [zjr,zh0];omega
theorem pair_root (k:Int) (a b:List SNode):at? (zjr k a b) ((a.length:Int)+(b.length:Int))=some (k,(a.length:Int)-1,((a.length:Int)+(b.length:Int))-1,0,0,(0#256),([]:Str)):=by
 have:=at_right (a:=a++zof (a.length:Int) b) (b:=[(k,(a.length:Int)-1,((a.length:Int)+(b.length:Int))-1,0,0,(0#256),([]:Str))]) (i:=0) rfl;rw [List.length_append,zh0] at this;have e:(0:Int)+((a.length+b.length:Nat):Int)=(a.length:Int)+(b.length:Int):=by omega
 rw [e] at this;exact this
theorem pair_rt {k:Int} {a b:List SNode} (ha:Rt a) (hb:Rt b) (hk:k=4∨k=5):Rt (zjr k a b):=by
 have ea:Emb a (zjr k a b) 0:=by unfold zjr;rw [List.append_assoc];exact emb_left _
 have eb:Emb b (zjr k a b) (a.length:Int):=emb_mid;have ta:=ha.tr.emb ea;have tb:=hb.tr.emb eb;have tr:Tr (zjr k a b) 0 (((zjr k a b).length:Int)-1):=by
  have e:(((zjr k a b).length:Int)-1)=(a.length:Int)+(b.length:Int):=by rw [pair_len];omega
  rw [e];refine .two (p:=(a.length:Int)) (pair_root k a b) hk rfl rfl ?_ ?_
  ·have e1:(b.length:Int)-1+(a.length:Int)=(a.length:Int)+(b.length:Int)-1:=by omega
   rw [e1,Int.zero_add] at tb;exact tb
  ·rw [Int.add_zero,Int.add_zero] at ta;exact ta
 have nk:=tr.nok;refine ⟨⟨nk.two,nk.one,nk.rep,nk.kind,nk.ntx,fun i n hn h67=>?_⟩,tr⟩;unfold zjr at hn;rcases at_app hn with hn | hn
 ·rcases at_app hn with hn | hn
  ·obtain ⟨p,q⟩:=ha.one _ n hn (by omega);obtain ⟨m,hm⟩:=zdq hn p q;have:=nz_emb ea ha.nok nk a.length _ m (by have:=zbv hm;omega) hm;rw [Int.add_zero] at this;rw [this];exact ha.nn _ n hn h67
  ·obtain ⟨m0,hm0,rfl⟩:=at_movL_inv hn;have hk0:m0.1=6∨m0.1=7:=h67;obtain ⟨p,q⟩:=hb.one _ m0 hm0 (by omega);obtain ⟨m,hm⟩:=zdq hm0 p q;have:=nz_emb eb hb.nok nk b.length _ m (by have:=zbv hm;omega) hm;simp only [zpm];rw [if_pos (by omega),this];exact hb.nn _ m0 hm0 hk0
 ·obtain ⟨_,rfl⟩:=at_one hn;simp only at h67;omega
theorem leaf_rt {n:SNode} (hk:n.1=1∨n.1=2) (h0:n.2.1=0∧n.2.2.1=0):Rt [n]:=by
 have tr:Tr [n] 0 ((([n]:List SNode).length:Int)-1):=.leaf (e:=n) rfl (by omega) (fun h=>by omega) h0;have nk:=tr.nok;refine ⟨⟨nk.two,nk.one,nk.rep,nk.kind,nk.ntx,fun i m hm h67=>?_⟩,tr⟩;obtain ⟨_,rfl⟩:=at_one hm;omega
def zb4 (F:List SItem→Nat) (L:List (List SItem)):Nat:=(L.map F).sum
theorem zer (F:List SItem→Nat) (A B:List (List SItem)):zb4 F (A++B)=zb4 F A+zb4 F B:=by unfold zb4;rw [List.map_append,List.sum_append]
theorem zgt (F:List SItem→Nat) (m:Nat) (L:List (List SItem)):zb4 F (List.replicate m L).flatten=m*zb4 F L:=by
 induction m with
 | zero=>simp [zb4]
 | succ m ih=>rw [List.replicate_succ,List.flatten_cons,zer,ih,Nat.succ_mul,Nat.add_comm]
theorem zea (F:List SItem→Nat) (g:List SItem→List SItem) (L:List (List SItem)):zb4 F (L.map g)=zb4 (fun t=>F (g t)) L:=by unfold zb4;rw [List.map_map];rfl
theorem zgb {F G:List SItem→Nat} {L:List (List SItem)} (h:∀t∈L,F t=G t):zb4 F L=zb4 G L:=by unfold zb4;rw [List.map_congr_left h]
theorem zdc (L:List (List SItem)):L.count []=zb4 (fun t=>if t=[] then 1 else 0) L:=by
 induction L with
 | nil=>rfl
 | cons t L ih=>
  rw [List.count_cons,ih];unfold zb4;rw [List.map_cons,List.sum_cons]
  by_cases h:t=[]
  ·simp [h];omega
  ·simp [h]
theorem zmc (F:List SItem→Nat) (m:Nat) (L:List (List SItem)):zb4 (fun t=>F t*m) L=zb4 F L*m:=by
 induction L with
 | nil=>simp [zb4]
 | cons t L ih=>
  unfold zb4 at *;simp only [List.map_cons,List.sum_cons];rw [ih,Nat.add_mul]
theorem pmI_ne {d:List SNode} (hd:ROk d) (x:SItem):∀p∈pmI d x,p≠[]:=by
 intro p hp e;subst e;have k1:∀i,[] ∉ pm d i:=fun i h=>by
  obtain ⟨y,q,e,_⟩:=PM_rng hd (i.toNat+1) i (by omega) _ h;cases e
 unfold pmI at hp;split at hp
 ·exact k1 _ hp
 ·split at hp
  ·split at hp
   ·split at hp
    ·obtain ⟨q,_,e⟩:=List.mem_map.1 hp;simp at e
    ·cases hp
   ·cases hp
  ·split at hp
   ·cases hp
   ·simp at hp
theorem zq6 {d:List SNode} (hd:ROk d) (F:List SItem→Nat) (r:List SItem):∀s,zb4 F (hds d (s++r))=zb4 (fun t=>if t=[] then zb4 F (hds d r) else F (t++r)) (hds d s)
 | []=>by simp [hds,zb4]
 | x::s=>by
  have ih:=zq6 hd F r s;simp only [List.cons_append,hds];rw [zer,zer,zgt,zgt,zea,zea,ih]
  congr 1
  refine zgb fun p hp=>?_;rw [if_neg (by have:=pmI_ne hd x p hp;simp [this]),List.append_assoc]
theorem lowF_app (s r:List SItem):zdo (s++r)=if (zdo s).2=true∧(zdo r).2=true then ((zdo s).1++(zdo r).1,true) else ([],false):=by
 unfold zdo;rw [List.any_append,List.map_append];cases s.any zkx <;> cases r.any zkx <;> simp
theorem znd {d:List SNode} {t:List SItem} (ht:t≠[]) (r:List SItem) (c:Int):zx d (t++r) c=if (zx d t c).2=true∧(zdo r).2=true then ((zx d t c).1++(zdo r).1,true) else ([],false):=by
 cases t with
 | nil=>exact absurd rfl ht
 | cons x rest=>
  have hl:=lowF_app rest r;cases h1:(zdo rest).2
  ·have e1:zx d (x::rest) c=([],false):=by unfold zx;simp only;rw [if_pos h1]
   have e2:(zdo (rest++r)).2=false:=by rw [hl,h1];simp
   rw [e1];rw [List.cons_append];unfold zx;simp only;rw [if_pos e2];simp
  ·cases h2:(zdo r).2
   ·have e2:(zdo (rest++r)).2=false:=by rw [hl,h2];simp
    rw [List.cons_append];have e3:zx d (x::(rest++r)) c=([],false):=by unfold zx;simp only;rw [if_pos e2]
    rw [e3,if_neg (by simp)]
   ·have e2:zdo (rest++r)=((zdo rest).1++(zdo r).1,true):=by rw [hl,h1,h2];simp
    rw [List.cons_append];unfold zx;simp only [e2];rw [if_neg (show ¬ true=false by simp),if_neg (show ¬ (zdo rest).2=false by rw [h1];simp)];cases hn:at? d x.2.1 with
    | none=>simp
    | some n=>
     simp only
     by_cases h3:x.1=3
     ·rw [if_pos h3,if_pos h3];split
      ·simp
      ·simp
     ·rw [if_neg h3,if_neg h3]
      by_cases h4:x.1=4
      ·rw [if_pos h4,if_pos h4];simp
      ·rw [if_neg h4,if_neg h4]
       by_cases h8:n.1=8
       ·rw [if_pos h8,if_pos h8];simp
       ·rw [if_neg h8,if_neg h8]
        by_cases h9:n.1=9
        ·rw [if_pos h9,if_pos h9];simp
        ·rw [if_neg h9,if_neg h9]
         by_cases hh:n.2.2.2.2.2.1.has c.toNat=true
         ·rw [if_pos hh,if_pos hh];simp
         ·rw [if_neg hh,if_neg hh];simp
def wyn (d:List SNode):List Int→List SItem→Nat
 | [],s=>(hds d s).count []
 | c::w,s=>zb4 (fun t=>if (zx d t c).2=true then wyn d w (zx d t c).1 else 0) (hds d s)
def zog:Nat→List SItem→Option (List SItem)
 | 0,s=>some s
 | p+1,s=>if (zdo s).2=true then zog p (zdo s).1 else none
def wynO (d:List SNode) (w:List Int):Option (List SItem)→Nat
 | some s=>wyn d w s
 | none=>0
theorem zhf (d:List SNode) (w:List Int) (s:List SItem):wynO d w (some s)=wyn d w s:=rfl
def zeg (F:List Int→List Int→Nat):List Int→Nat
 | []=>F [] []
 | c::w=>F [] (c::w)+zeg (fun a b=>F (c::a) b) w
theorem zez {F G:List Int→List Int→Nat}:∀{w:List Int},(∀a b,a++b=w→F a b=G a b)→zeg F w=zeg G w
 | [],h=>h [] [] rfl
 | c::w,h=>by
  unfold zeg;rw [h [] (c::w) rfl,zez fun a b e=>h (c::a) b (by simp [e])]
theorem zfx:∀(w:List Int),zeg (fun _ _=>0) w=0
 | []=>rfl
 | c::w=>by unfold zeg;rw [zfx w]
theorem zml (F G:List Int→List Int→Nat):∀(w:List Int),zeg (fun a b=>F a b+G a b) w=zeg F w+zeg G w
 | []=>rfl
 | c::w=>by unfold zeg;rw [zml (fun a b=>F (c::a) b) (fun a b=>G (c::a) b) w];omega
theorem cutS_sum (g:List SItem→List Int→List Int→Nat) (w:List Int):∀(L:List (List SItem)),zeg (fun a b=>zb4 (fun t=>g t a b) L) w=zb4 (fun t=>zeg (g t) w) L
 | []=>by simp [zb4,zfx]
 | t::L=>by
  have ih:=cutS_sum g w L;have e:(fun a b=>zb4 (fun t=>g t a b) (t::L))=fun a b=>g t a b+zb4 (fun t=>g t a b) L:=by
   funext a b;simp [zb4]
  rw [e,zml,ih];simp [zb4]
theorem wyn_app {d:List SNode} (hd:ROk d):∀(w:List Int) (s r:List SItem),wyn d w (s++r)=zeg (fun a b=>wyn d a s*wynO d b (zog a.length r)) w
 | [],s,r=>by
  simp only [wyn,zeg,List.length_nil,zog,zhf];rw [zdc,zq6 hd,zdc (hds d s),← zmc];refine zgb fun t _=>?_
  by_cases ht:t=[]
  ·rw [if_pos ht,if_pos ht,← zdc,Nat.one_mul]
  ·rw [if_neg ht,if_neg ht,if_neg (by simp [ht])];simp
 | c::w,s,r=>by
  have ih:=wyn_app hd w;simp only [wyn,zeg,List.length_nil,zog,zhf];rw [zq6 hd];cases hl:(zdo r).2
  ·-- nothing behind may be lowered
   have e0:zeg (fun a b=>zb4 (fun t=>if (zx d t c).2=true then wyn d a (zx d t c).1 else 0) (hds d s)*wynO d b (zog (c::a).length r)) w=0:=by
    have:(fun a b=>zb4 (fun t=>if (zx d t c).2=true then wyn d a (zx d t c).1 else 0) (hds d s)*wynO d b (zog (c::a).length r))=fun _ _=>0:=by
     funext a b;simp [zog,hl,wynO]
    rw [this,zfx]
   rw [e0,Nat.add_zero,zdc,← zmc];refine zgb fun t _=>?_
   by_cases ht:t=[]
   ·rw [if_pos ht,if_pos ht,Nat.one_mul]
   ·rw [if_neg ht,if_neg ht,znd ht,hl];simp
  ·have e0:zeg (fun a b=>zb4 (fun t=>if (zx d t c).2=true then wyn d a (zx d t c).1 else 0) (hds d s)*wynO d b (zog (c::a).length r)) w
     = zb4 (fun t=>if (zx d t c).2=true then wyn d w ((zx d t c).1++(zdo r).1) else 0) (hds d s):=by
    have e1:(fun a b=>zb4 (fun t=>if (zx d t c).2=true then wyn d a (zx d t c).1 else 0) (hds d s)*wynO d b (zog (c::a).length r))
      = fun (a:List Int) b=>zb4 (fun t=>(if (zx d t c).2=true then wyn d a (zx d t c).1 else 0)*wynO d b (zog a.length (zdo r).1)) (hds d s):=by
     funext a b;rw [zmc];simp [zog,hl]
    rw [e1,cutS_sum (fun t a b=>(if (zx d t c).2=true then wyn d a (zx d t c).1 else 0)*wynO d b (zog a.length (zdo r).1))];refine zgb fun t _=>?_;cases hr:(zx d t c).2
    ·simp [zfx]
    ·simp only [if_true];rw [ih]
   rw [e0,zdc,← zmc];have e2:∀(A B:List SItem→Nat) (L:List (List SItem)),zb4 A L+zb4 B L=zb4 (fun t=>A t+B t) L:=by
    intro A B L
    induction L with
    | nil=>rfl
    | cons t L ih=>unfold zb4 at *;simp only [List.map_cons,List.sum_cons];omega
   rw [e2];refine zgb fun t _=>?_
   by_cases ht:t=[]
   ·subst ht;simp [zx]
   ·rw [if_neg ht,if_neg ht,znd ht,hl];cases hr:(zx d t c).2
    ·simp
    ·simp
def zb1 (d:List SNode) (i:Int) (w:List Int):Nat:=wyn d w [(1,i,0,0)]
theorem zl9 {d:List SNode} {s s':List SItem} (h:∀F,zb4 F (hds d s)=zb4 F (hds d s')) (w:List Int):wyn d w s=wyn d w s':=by
 cases w with
 | nil=>simp only [wyn];rw [zdc,zdc,h]
 | cons c w=>simp only [wyn];rw [h]
theorem wyn_two {d:List SNode} {s s1 s2:List SItem} (h:∀F,zb4 F (hds d s)=zb4 F (hds d s1)+zb4 F (hds d s2)) (w:List Int):wyn d w s=wyn d w s1+wyn d w s2:=by
 cases w with
 | nil=>simp only [wyn];rw [zdc,zdc,zdc,h]
 | cons c w=>simp only [wyn];rw [h]
theorem zpu (d:List SNode) (w:List Int):wyn d w []=if w=[] then 1 else 0:=by
 cases w with
 | nil=>simp [wyn,hds]
 | cons c w=>simp [wyn,hds,zb4,zx]
theorem zlx (d:List SNode) (r:Int):hds d [(1,r,0,0)]=pm d r++(List.replicate (nw d r) [[]]).flatten:=by
 have e1:pmI d (1,r,0,0)=pm d r:=rfl;have e2:nwI d (1,r,0,0)=nw d r:=rfl;simp only [hds,e1,e2,List.append_nil];rw [List.map_id']
theorem zde (d:List SNode) (F:List SItem→Nat) (i:Int):zb4 F (hds d [(1,i,0,0)])=zb4 F (pm d i)+nw d i*F []:=by
 have e1:pmI d (1,i,0,0)=pm d i:=rfl;have e2:nwI d (1,i,0,0)=nw d i:=rfl;simp only [hds,e1,e2,List.append_nil];rw [List.map_id',zer,zgt];simp [zb4]
theorem zhg (d:List SNode) (F:List SItem→Nat) (i:Int) (r:List SItem):zb4 F (hds d ((1,i,0,0)::r))=zb4 (fun p=>F (p++r)) (pm d i)+nw d i*zb4 F (hds d r):=by
 have e1:pmI d (1,i,0,0)=pm d i:=rfl;have e2:nwI d (1,i,0,0)=nw d i:=rfl;simp only [hds,e1,e2];rw [zer,zgt,zea]
theorem zjt {d:List SNode} (hd:ROk d) {i:Int} {n:SNode} (hn:at? d i=some n) (h:n.1=6∨n.1=7):nw d n.2.1=0:=by
 obtain ⟨p,q⟩:=hd.one _ n hn (by omega);obtain ⟨m,hm⟩:=zdq hn p q;have:=zjs hd (n.2.1.toNat+1) _ m (by omega) hm;rw [hd.nn _ n hn h] at this;rcases Nat.eq_zero_or_pos (nw d n.2.1) with h0 | h0
 ·exact h0
 ·have:=this.1 (by omega);cases this
def NoEnd (s:List SItem):Prop:=∀x∈s,x.1≠5
theorem lowF_plain {s:List SItem} (h:NoEnd s):zdo s=(s,true):=by
 unfold zdo;have h1:s.any zkx=false:=by
  rw [List.any_eq_false];intro x hx;simp [zkx,h x hx]
 rw [h1];simp only [Bool.false_eq_true,if_false,Prod.mk.injEq,and_true];have:∀x∈s,zk1 x=id x:=fun x hx=>by unfold zk1;rw [if_neg (h x hx)];rfl
 rw [List.map_congr_left this,List.map_id]
theorem zew {s:List SItem} (h:NoEnd s):∀p,zog p s=some s
 | 0=>rfl
 | p+1=>by
  unfold zog;rw [lowF_plain h];simp only [if_true];exact zew h p
theorem zms {d:List SNode} (hd:ROk d) (w:List Int) (s:List SItem) {r:List SItem} (h:NoEnd r):wyn d w (s++r)=zeg (fun a b=>wyn d a s*wyn d b r) w:=by
 rw [wyn_app hd];exact zez fun a b _=>by rw [zew h,zhf]
section
variable {d : List SNode} (hd : ROk d) {i : Int} {n : SNode} (hn : at? d i = some n)
include hd hn
theorem node_empty (h:n.1=1) (w:List Int):zb1 d i w=if w=[] then 1 else 0:=by
 have e:=zjh hd hn;rw [if_pos h] at e;have e1:pm d i=[]:=by unfold pm;rw [e]
 have e2:nw d i=1:=by unfold nw;rw [e]
 unfold zb1;rw [← zpu d w];refine zl9 (fun F=>?_) w;rw [zde,e1,e2];simp [hds,zb4]
theorem node_seq (h:n.1=4) (w:List Int):zb1 d i w=zeg (fun a b=>zb1 d n.2.1 a*zb1 d n.2.2.1 b) w:=by
 have e:=zjh hd hn;rw [if_neg (by omega),if_neg (by omega),if_pos h] at e;have e1:pm d i=(pm d n.2.1).map (·++[(1,n.2.2.1,0,0)])++(List.replicate (nw d n.2.1) (pm d n.2.2.1)).flatten:=by
  have:pm d i=(PM d d.length i).1:=rfl;rw [this,e]
 have e2:nw d i=nw d n.2.1*nw d n.2.2.1:=by
  have:nw d i=(PM d d.length i).2:=rfl;rw [this,e]
 unfold zb1;rw [← zms hd w [(1,n.2.1,0,0)] (r:=[(1,n.2.2.1,0,0)]) (by intro x hx;rw [List.mem_singleton.1 hx];simp)];refine zl9 (fun F=>?_) w;rw [zde,List.singleton_append,zhg,zde,e1,e2,zer,zea,zgt,Nat.mul_add,Nat.mul_assoc,Nat.add_assoc]
theorem node_or (h:n.1=5) (w:List Int):zb1 d i w=zb1 d n.2.1 w+zb1 d n.2.2.1 w:=by
 have e:=zjh hd hn;rw [if_neg (by omega),if_neg (by omega),if_neg (by omega),if_pos h] at e;have e1:pm d i=pm d n.2.1++pm d n.2.2.1:=by
  have:pm d i=(PM d d.length i).1:=rfl;rw [this,e]
 have e2:nw d i=nw d n.2.1+nw d n.2.2.1:=by
  have:nw d i=(PM d d.length i).2:=rfl;rw [this,e]
 unfold zb1;refine wyn_two (fun F=>?_) w;rw [zde,zde,zde,e1,e2,zer,Nat.add_mul];omega
theorem node_star (h:n.1=6) (w:List Int):zb1 d i w=(if w=[] then 1 else 0)+zeg (fun a b=>zb1 d n.2.1 a*zb1 d i b) w:=by
 have e:=zjh hd hn;rw [if_neg (by omega),if_neg (by omega),if_neg (by omega),if_neg (by omega),if_pos h] at e;have e1:pm d i=(pm d n.2.1).map (·++[(1,i,0,0)]):=by
  have:pm d i=(PM d d.length i).1:=rfl;rw [this,e]
 have e2:nw d i=1:=by
  have:nw d i=(PM d d.length i).2:=rfl;rw [this,e]
 have z:=zjt hd hn (.inl h);unfold zb1;rw [← zms hd w [(1,n.2.1,0,0)] (r:=[(1,i,0,0)]) (by intro x hx;rw [List.mem_singleton.1 hx];simp),← zpu d w];refine wyn_two (fun F=>?_) w;rw [zde,List.singleton_append,zhg,e1,e2,z,zea];simp [hds,zb4];omega
theorem item_rep (h:n.1=7) (lo hi:Int) (w:List Int):wyn d w [(2,i,lo,hi)]=(if lo=0∧w=[] then 1 else 0)+if 0<hi then zeg (fun a b=>zb1 d n.2.1 a*wyn d b [(2,i,max (lo-1) 0,hi-1)]) w else 0:=by
 have z:=zjt hd hn (.inr h);have e1:pmI d (2,i,lo,hi)=if 0<hi then (pm d n.2.1).map (·++[(2,i,max (lo-1) 0,hi-1)]) else []:=by
  unfold pmI;simp [hn]
 have e2:nwI d (2,i,lo,hi)=if lo=0 then 1 else 0:=by simp [nwI]
 have base:∀F,zb4 F (hds d [(2,i,lo,hi)])=(if lo=0 then F [] else 0)+if 0<hi then zb4 F (hds d ([(1,n.2.1,0,0)]++[(2,i,max (lo-1) 0,hi-1)])) else 0:=by
  intro F;simp only [List.singleton_append];rw [zhg,z];have e3:hds d [(2,i,lo,hi)]=(pmI d (2,i,lo,hi)).map (·++[])++(List.replicate (nwI d (2,i,lo,hi)) [[]]).flatten:=rfl;rw [e3,zer,zgt,e1,e2,zea]
  by_cases h0:lo=0
  ·by_cases h1:0<hi
   ·simp only [if_pos h0,if_pos h1,List.append_nil];rw [zea];simp [zb4];omega
   ·simp only [if_pos h0,if_neg h1];simp [zb4]
  ·by_cases h1:0<hi
   ·simp only [if_neg h0,if_pos h1,List.append_nil];rw [zea];simp [zb4]
   ·simp only [if_neg h0,if_neg h1];simp [zb4]
 have ap:=zms hd w [(1,n.2.1,0,0)] (r:=[(2,i,max (lo-1) 0,hi-1)]) (by intro x hx;rw [List.mem_singleton.1 hx];simp);unfold zb1;rw [← ap];cases w with
 | nil=>
  simp only [wyn];rw [zdc,base,← zdc]
  by_cases h0:lo=0 <;> simp [h0]
 | cons c w=>
  simp only [wyn];rw [base]
  by_cases h0:lo=0 <;> simp [h0,zx]
theorem node_rep (h:n.1=7) (w:List Int):zb1 d i w=wyn d w [(2,i,n.2.2.2.1,n.2.2.2.2.1)]:=by
 have e:=zjh hd hn;rw [if_neg (by omega),if_neg (by omega),if_neg (by omega),if_neg (by omega),if_neg (by omega),if_pos h] at e;have e1:pm d i=if 0<n.2.2.2.2.1 then (pm d n.2.1).map (·++[(2,i,max (n.2.2.2.1-1) 0,n.2.2.2.2.1-1)]) else []:=by
  have:pm d i=(PM d d.length i).1:=rfl;rw [this,e]
 have e2:nw d i=if n.2.2.2.1=0 then 1 else 0:=by
  have:nw d i=(PM d d.length i).2:=rfl;rw [this,e]
 have e3:pmI d (2,i,n.2.2.2.1,n.2.2.2.2.1)=pm d i:=by rw [e1];unfold pmI;simp [hn]
 have e4:nwI d (2,i,n.2.2.2.1,n.2.2.2.2.1)=nw d i:=by rw [e2];simp [nwI]
 unfold zb1;refine zl9 (fun F=>?_) w;have e5:hds d [(2,i,n.2.2.2.1,n.2.2.2.2.1)]=(pmI d (2,i,n.2.2.2.1,n.2.2.2.2.1)).map (·++[])++(List.replicate (nwI d (2,i,n.2.2.2.1,n.2.2.2.2.1)) [[]]).flatten:=rfl;rw [e5,e3,e4];rfl
theorem zmf (h:n.1=2∨n.1=8∨n.1=9):pm d i=[[(1,i,0,0)]]∧nw d i=0:=by
 have e:=zjh hd hn;rw [if_neg (by omega),if_neg (by omega),if_neg (by omega),if_neg (by omega),if_neg (by omega),if_neg (by omega)] at e;have h1:pm d i=(PM d d.length i).1:=rfl;have h2:nw d i=(PM d d.length i).2:=rfl;rw [h1,h2,e];exact ⟨rfl,rfl⟩
theorem zlh (h:n.1=2∨n.1=8∨n.1=9):zb1 d i []=0∧∀c w,zb1 d i (c::w)=if (zx d [(1,i,0,0)] c).2=true then wyn d w (zx d [(1,i,0,0)] c).1 else 0:=by
 obtain ⟨e1,e2⟩:=zmf hd hn h;have e3:hds d [(1,i,0,0)]=[[(1,i,0,0)]]:=by rw [zlx,e1,e2];rfl
 unfold zb1;refine ⟨by simp [wyn,e3],fun c w=>by simp [wyn,e3,zb4]⟩
theorem node_bytes (h:n.1=2) (w:List Int):zb1 d i w=match w with | []=>0 | c::w=>if n.2.2.2.2.2.1.has c.toNat=true∧w=[] then 1 else 0:=by
 obtain ⟨k1,k2⟩:=zlh hd hn (.inl h);cases w with
 | nil=>exact k1
 | cons c w=>
  rw [k2];have e:zx d [(1,i,0,0)] c=if n.2.2.2.2.2.1.has c.toNat=true then ([],true) else ([],false):=by
   unfold zx;simp only [hn];rw [if_neg (by simp [zdo]),if_neg (by decide),if_neg (by decide),if_neg (by omega),if_neg (by omega)];rfl
  rw [e]
  by_cases hh:n.2.2.2.2.2.1.has c.toNat=true
  ·rw [if_pos hh];simp only [if_true];rw [zpu];simp [hh]
  ·rw [if_neg hh];simp [hh]
end
end Go.Proofs.YtkbboemafklkkaaGreatDoor.V
namespace Go.Proofs.YtkbboemafklkkaaGreatDoor.V
open Go
set_option linter.unusedVariables false
theorem zre {F:List Int→List Int→Nat}:∀{w:List Int},(∀a b,a++b=w→b≠[]→F a b=0)→zeg F w=F w []
 | [],_=>rfl
 | c::w,h=>by
  unfold zeg;rw [h [] (c::w) rfl (by simp),Nat.zero_add];exact zre fun a b e hb=>h (c::a) b (by simp [e]) hb
theorem zmi (m:Int) (hm:0≤m):∀p:Nat,zog p [(5,0,m,0)]=if (p:Int)≤m then some [(5,0,m-p,0)] else none:=by
 intro p
 induction p generalizing m with
 | zero=>simp [zog,hm]
 | succ p ih=>
  unfold zog
  by_cases h0:m≤0
  ·have e:zdo [(5,0,m,0)]=([],false):=by simp [zdo,zkx,h0]
   rw [e,if_neg (by simp),if_neg (by omega)]
  ·have e:zdo [(5,0,m,0)]=([(5,0,m-1,0)],true):=by simp [zdo,zkx,zk1,h0]
   rw [e];simp only [if_true];rw [ih (m-1) (by omega)]
   by_cases h1:((p+1:Nat):Int)≤m
   ·rw [if_pos (by omega),if_pos h1]
    congr 3
    simp;omega
   ·rw [if_neg (by omega),if_neg h1]
theorem wyn_end (d:List SNode) (m:Int) (w:List Int):wyn d w [(5,0,m,0)]=if m=0∧w=[] then 1 else 0:=by
 have e:hds d [(5,0,m,0)]=if m=0 then [[]] else []:=by
  have e1:pmI d (5,0,m,0)=[]:=by simp [pmI]
  have e2:nwI d (5,0,m,0)=if m=0 then 1 else 0:=by simp [nwI]
  have e3:hds d [(5,0,m,0)]=(pmI d (5,0,m,0)).map (·++[])++(List.replicate (nwI d (5,0,m,0)) [[]]).flatten:=rfl;rw [e3,e1,e2];split <;> rfl
 cases w with
 | nil=>simp only [wyn,e];split <;> simp_all
 | cons c w=>simp only [wyn,e];split <;> simp [zb4,zx]
section
variable {d : List SNode} (hd : ROk d)
include hd
theorem wyn_held (i:Int) {c:Int} (hc:0≤c) (w:List Int):wyn d w [(1,i,0,0),(5,0,c,0)]=if (w.length:Int)=c then zb1 d i w else 0:=by
 have e:=wyn_app hd w [(1,i,0,0)] [(5,0,c,0)];rw [List.singleton_append] at e;rw [e,zre]
 ·rw [zmi c hc];unfold zb1
  by_cases h:(w.length:Int)=c
  ·rw [if_pos (by omega),if_pos h,zhf,wyn_end,if_pos ⟨by omega,rfl⟩,Nat.mul_one]
  ·rw [if_neg h]
   by_cases h1:(w.length:Int)≤c
   ·rw [if_pos h1,zhf,wyn_end,if_neg (by omega)];simp
   ·rw [if_neg h1];simp [wynO]
 ·intro a b hab hb;rw [zmi c hc];split
  ·rw [zhf,wyn_end,if_neg (by simp [hb])];simp
  ·simp [wynO]
variable {i : Int} {n : SNode} (hn : at? d i = some n)
include hn
theorem zpl (h:n.1=8) (w:List Int) (hw:∀c∈w,0≤c):zb1 d i w=match w with | []=>0 | c::w=>if (w.length:Int)=c then zb1 d n.2.1 w else 0:=by
 obtain ⟨k1,k2⟩:=zlh hd hn (.inr (.inl h));cases w with
 | nil=>exact k1
 | cons c w=>
  rw [k2];have e:zx d [(1,i,0,0)] c=([(1,n.2.1,0,0),(5,0,c,0)],true):=by
   unfold zx;simp only [hn];rw [if_neg (by simp [zdo]),if_neg (by decide),if_neg (by decide),if_pos h];rfl
  rw [e];simp only [if_true];exact wyn_held hd n.2.1 (hw c (by simp)) w
theorem znk (h:n.1=9) (w:List Int) (hw:∀c∈w,0≤c):zb1 d i w=match w with | []=>0 | [_]=>0 | c::b::w=>if (w.length:Int)=256*c+b then zb1 d n.2.1 w else 0:=by
 obtain ⟨k1,k2⟩:=zlh hd hn (.inr (.inr h));cases w with
 | nil=>exact k1
 | cons c w=>
  rw [k2];have e:zx d [(1,i,0,0)] c=([(4,i,c,0)],true):=by
   unfold zx;simp only [hn];rw [if_neg (by simp [zdo]),if_neg (by decide),if_neg (by decide),if_neg (by omega),if_pos h];rfl
  rw [e];simp only [if_true];have e4:hds d [(4,i,c,0)]=[[(4,i,c,0)]]:=by
   have e1:pmI d (4,i,c,0)=[[(4,i,c,0)]]:=by simp [pmI]
   have e2:nwI d (4,i,c,0)=0:=by simp [nwI]
   have e3:hds d [(4,i,c,0)]=(pmI d (4,i,c,0)).map (·++[])++(List.replicate (nwI d (4,i,c,0)) [[]]).flatten:=rfl;rw [e3,e1,e2];rfl
  cases w with
  | nil=>simp [wyn,e4]
  | cons b w=>
   have e5:zx d [(4,i,c,0)] b=([(1,n.2.1,0,0),(5,0,256*c+b,0)],true):=by
    unfold zx;simp only [hn];rw [if_neg (by simp [zdo]),if_neg (by decide),if_pos trivial];rfl
   simp only [wyn,e4];have hc0:=hw c (by simp);have hb0:=hw b (by simp);have:zb4 (fun t=>if (zx d t b).2=true then wyn d w (zx d t b).1 else 0) [[(4,i,c,0)]]=wyn d w [(1,n.2.1,0,0),(5,0,256*c+b,0)]:=by
    simp [zb4,e5]
   rw [this];exact wyn_held hd n.2.1 (by omega) w
omit hd in
theorem wyn_text (h:n.1=3):∀(w:List Int) (lo:Nat),lo<n.2.2.2.2.2.2.length→wyn d w [(3,i,(lo:Int),0)]=if w=(n.2.2.2.2.2.2.map fun b=>(b.toNat:Int)).drop lo then 1 else 0:=by
 have e3:∀lo:Int,hds d [(3,i,lo,0)]=[[(3,i,lo,0)]]:=fun lo=>by
  have e1:pmI d (3,i,lo,0)=[[(3,i,lo,0)]]:=by simp [pmI]
  have e2:nwI d (3,i,lo,0)=0:=by simp [nwI]
  have e3:hds d [(3,i,lo,0)]=(pmI d (3,i,lo,0)).map (·++[])++(List.replicate (nwI d (3,i,lo,0)) [[]]).flatten:=rfl
  rw [e3,e1,e2];rfl
 intro w
 induction w with
 | nil=>
  intro lo hlo
  rw [if_neg (by
   intro e
   have:=congrArg List.length e
   simp at this
   omega)]
  simp [wyn,e3]
 | cons c w ih=>
  intro lo hlo
  have hb:zdv n.2.2.2.2.2.2 (lo:Int)=some ((n.2.2.2.2.2.2[lo]).toNat:Int):=by
   unfold zdv
   rw [zbn,List.getElem?_eq_getElem hlo];rfl
  have hdr:(n.2.2.2.2.2.2.map fun b=>(b.toNat:Int)).drop lo=((n.2.2.2.2.2.2[lo]).toNat:Int)::(n.2.2.2.2.2.2.map fun b=>(b.toNat:Int)).drop (lo+1):=by
   rw [List.drop_eq_getElem_cons (by simpa using hlo)];simp
  have hr:zx d [(3,i,(lo:Int),0)] c=if zdv n.2.2.2.2.2.2 (lo:Int)=some c then (if (lo:Int)+1<(n.2.2.2.2.2.2.length:Int) then [(3,i,(lo:Int)+1,0)] else [],true) else ([],false):=by
   unfold zx
   simp only [hn]
   rw [if_neg (by simp [zdo]),if_pos trivial]
   split
   ·split <;> rfl
   ·rfl
  simp only [wyn,e3]
  have es:zb4 (fun t=>if (zx d t c).2=true then wyn d w (zx d t c).1 else 0) [[(3,i,(lo:Int),0)]]=if (zx d [(3,i,(lo:Int),0)] c).2=true then wyn d w (zx d [(3,i,(lo:Int),0)] c).1 else 0:=by simp [zb4]
  rw [es,hdr]
  by_cases hc:((n.2.2.2.2.2.2[lo]).toNat:Int)=c
  ·have hr2:zx d [(3,i,(lo:Int),0)] c=(if (lo:Int)+1<(n.2.2.2.2.2.2.length:Int) then [(3,i,(lo:Int)+1,0)] else [],true):=by rw [hr,hb,if_pos (by rw [hc])]
   rw [hr2]
   simp only [if_true]
   by_cases hl:lo+1<n.2.2.2.2.2.2.length
   ·rw [if_pos (show (lo:Int)+1<(n.2.2.2.2.2.2.length:Int) by omega)]
    have:=ih (lo+1) hl
    have ec:((lo+1:Nat):Int)=(lo:Int)+1:=by omega
    rw [ec] at this
    rw [this,hc]
    simp
   ·rw [if_neg (show ¬ (lo:Int)+1<(n.2.2.2.2.2.2.length:Int) by omega),zpu,hc]
    have:(n.2.2.2.2.2.2.map fun b=>(b.toNat:Int)).drop (lo+1)=[]:=List.drop_of_length_le (by simp;omega)
    rw [this]
    simp
  ·have hr2:zx d [(3,i,(lo:Int),0)] c=([],false):=by rw [hr,hb,if_neg (by simpa using hc)]
   rw [hr2]
   simp only [Bool.false_eq_true,if_false]
   rw [if_neg]
   intro e
   injection e with e1 e2
   exact hc e1.symm
theorem node_text (h:n.1=3) (w:List Int):zb1 d i w=if w=(n.2.2.2.2.2.2.map fun b=>(b.toNat:Int)) then 1 else 0:=by
 have hne:=hd.ntx _ n hn h;have hlo:0<n.2.2.2.2.2.2.length:=List.length_pos_iff.2 hne;have e:=zjh hd hn;rw [if_neg (by omega),if_pos h] at e;have e1:pm d i=[[(3,i,0,0)]]:=by
  have:pm d i=(PM d d.length i).1:=rfl;rw [this,e]
 have e2:nw d i=0:=by
  have:nw d i=(PM d d.length i).2:=rfl;rw [this,e]
 have:=wyn_text hn h w 0 hlo;rw [List.drop_zero] at this;rw [← this];unfold zb1;refine zl9 (fun F=>?_) w;rw [zde,e1,e2];have e3:pmI d (3,i,((0:Nat):Int),0)=[[(3,i,0,0)]]:=by simp [pmI]
 have e4:nwI d (3,i,((0:Nat):Int),0)=0:=by simp [nwI]
 have e5:hds d [(3,i,((0:Nat):Int),0)]=(pmI d (3,i,((0:Nat):Int),0)).map (·++[])++(List.replicate (nwI d (3,i,((0:Nat):Int),0)) [[]]).flatten:=rfl;rw [e5,e3,e4];simp [zb4]
end
end Go.Proofs.YtkbboemafklkkaaGreatDoor.V
namespace Go.Proofs.YtkbboemafklkkaaGreatDoor.V
open Go
set_option linter.unusedVariables false
def zdb (N:Nat) (g:Nat→Int):List Int:=(List.range (N+1)).map g
theorem zhy (N:Nat) (g:Nat→Int):(zdb N g).length=N+1:=by simp [zdb]
theorem zg5 {N:Nat} {g:Nat→Int} {q:Nat} (h:q≤N):at? (zdb N g) (q:Int)=some (g q):=by
 rw [zbn];unfold zdb;rw [List.getElem?_map,List.getElem?_range (by omega)];rfl
theorem zgz (N:Nat) (g:Nat→Int) (q:Nat) (v:Int):(zdb N g).set q v=zdb N (fun k=>if k=q then v else g k):=by
 apply List.ext_getElem
 ·simp [zdb]
 ·intro i h1 h2;rw [List.getElem_set];simp only [zdb,List.getElem_map,List.getElem_range]
  by_cases h:q=i
  ·subst h;simp
  ·rw [if_neg h,if_neg (fun e=>h e.symm)]
theorem zbg {N:Nat} {g h:Nat→Int} (e:∀q,q≤N→g q=h q):zdb N g=zdb N h:=by
 unfold zdb;refine List.map_congr_left fun q hq=>e q ?_;have:=List.mem_range.1 hq;omega
theorem zmr {w:List Int} (hw:w.length≤1000):zev w (zdb w.length fun _=>0):=by
 refine ⟨zh (by omega) (by omega),⟨by omega,by omega⟩, ?_⟩;have e:((w.length:Int)+1).toNat=w.length+1:=by omega
 rw [e];apply List.ext_getElem
 ·simp [zdb]
 ·intro i h1 h2;simp [zdb]
theorem zqk {N:Nat} (hN:N≤1000) {g h:Nat→Int} {t:Int} (hg:∀q,0≤g q∧g q≤2) (hh:∀q,0≤h q∧h q≤2) (ht:0≤t∧t≤2):zb0 (zdb N g) (zdb N h) t (zdb N fun q=>min 2 (g q+t*h q)):=by
 refine ⟨by rw [zhy];simp;omega, ?_⟩;refine zhe (P:=fun k (o:List Int) v=>zb0.l1 (zdb N h) t _ k o v) (N+1) (fun i o=>o=zdb N fun q=>if q<i then min 2 (g q+t*h q) else g q) ?_ ?_ _ (by simp)
 ·rintro i o hi rfl;have e1:at? (zdb N fun q=>if q<i then min 2 (g q+t*h q) else g q) (i:Int)=some (g i):=by
   rw [zg5 (by omega),if_neg (by omega)]
  have e2:at? (zdb N h) (i:Int)=some (h i):=zg5 (by omega);have hp:0≤t*h i∧t*h i≤4:=by
   have h1:=hh i;have:t=0∨t=1∨t=2:=by omega
   rcases this with rfl | rfl | rfl <;> omega
  have hgi:=hg i;refine .inr ⟨_,rfl,fun k hk=>⟨fun _=>⟨_,e1,_,e2,zh (by omega) (by omega),zh (by omega) (by omega),_,e1,zh (by omega) (by omega), ?_⟩,fun hx=>absurd (by rw [zhy];omega) (df hx)⟩⟩;rw [Int.toNat_natCast,zgz];have:(zdb N fun k=>if k=i then min 2 (g i+t*h i) else if k<i then min 2 (g k+t*h k) else g k)=zdb N fun q=>if q<i+1 then min 2 (g q+t*h q) else g q:=zbg fun q _=>by
   by_cases h1:q=i
   ·subst h1;simp
   ·rw [if_neg h1]
    by_cases h2:q<i
    ·rw [if_pos h2,if_pos (by omega)]
    ·rw [if_neg h2,if_neg (by omega)]
  rw [this];exact hk
 ·rintro o rfl k;refine ⟨fun hx=>absurd (dt hx) (by rw [zhy];omega),fun _=>?_⟩;show zdb N _=zdb N _;exact zbg fun q hq=>by rw [if_pos (by omega)]
theorem zg4 (n:Nat):0≤sat n∧sat n≤2:=by unfold sat;omega
theorem sat_more (x a b:Nat):min 2 (sat x+sat a*sat b)=sat (x+a*b):=by
 have h:=min_mul a b;have e:(sat a*sat b:Int)=((min 2 a*min 2 b:Nat):Int):=by unfold sat;rw [Int.natCast_mul]
 rw [e];generalize min 2 a*min 2 b=P at *;generalize a*b=Q at *;unfold sat;omega
theorem sat_plus (x b:Nat):min 2 (sat x+1*sat b)=sat (x+b):=by unfold sat;omega
def zel (K:Nat) (f:Nat→Nat):Nat:=((List.range K).map f).sum
theorem zc6 (K:Nat) (f:Nat→Nat):zel (K+1) f=zel K f+f K:=by
 unfold zel;rw [List.range_succ,List.map_append,List.sum_append];simp
theorem zie (K:Nat):zel K (fun _=>0)=0:=by
 induction K with
 | zero=>rfl
 | succ K ih=>rw [zc6,ih]
theorem zd9 {K:Nat} {f g:Nat→Nat} (h:∀k,k<K→f k=g k):zel K f=zel K g:=by
 unfold zel;rw [List.map_congr_left fun k hk=>h k (List.mem_range.1 hk)]
theorem sumK_pick {K m:Nat} (hm:m<K) {f g:Nat→Nat} (h1:∀k,k≠m→f k=g k) (h2:g m=0):zel K f=f m+zel K g:=by
 induction K with
 | zero=>omega
 | succ K ih=>
  rw [zc6,zc6]
  by_cases h:m=K
  ·subst h;rw [h2,zd9 fun k hk=>h1 k (by omega)];omega
  ·rw [ih (by omega),h1 K (fun e=>h e.symm)];omega
def seg (w:List Int) (p q:Nat):List Int:=(w.take q).drop p
theorem zgx (w:List Int) (p:Nat):seg w p p=[]:=by
 unfold seg;exact List.drop_of_length_le (by rw [List.length_take];omega)
theorem zes {w:List Int} {p q:Nat} (h:p<q) (hq:q≤w.length):seg w p q=w[p]'(by omega)::seg w (p+1) q:=by
 unfold seg;rw [List.drop_eq_getElem_cons (by rw [List.length_take];omega)];simp
theorem cutS_seg {w:List Int}:∀(m p q:Nat) (F:List Int→List Int→Nat),q=p+m→q≤w.length→zeg F (seg w p q)=zel (w.length+1) fun k=>if p≤k∧k≤q then F (seg w p k) (seg w k q) else 0:=by
 intro m
 induction m with
 | zero=>
  intro p q F h hq;have:q=p:=by omega
  subst this;rw [sumK_pick (m:=q) (by omega) (g:=fun _=>0) (fun k hk=>if_neg (by omega)) rfl,zie,if_pos ⟨Nat.le_refl _,Nat.le_refl _⟩,zgx];rfl
 | succ m ih=>
  intro p q F h hq;have hp:p<w.length:=by omega
  have pick:=sumK_pick (K:=w.length+1) (m:=p) (by omega) (f:=fun k=>if p≤k∧k≤q then F (seg w p k) (seg w k q) else 0) (g:=fun k=>if p+1≤k∧k≤q then F (seg w p k) (seg w k q) else 0) (fun k hk=>by
   by_cases h1:p≤k∧k≤q
   ·rw [if_pos h1,if_pos (by omega)]
   ·rw [if_neg h1,if_neg (by omega)]) (if_neg (by omega))
  rw [pick];rw [if_pos (by omega),zgx,zes (show p<q by omega) hq];simp only [zeg];rw [ih (p+1) q _ (by omega) hq]
  congr 1
  refine zd9 fun k hk=>?_
  by_cases h1:p+1≤k∧k≤q
  ·rw [if_pos h1,if_pos h1,zes (show p<k by omega) (by omega)]
  ·rw [if_neg h1,if_neg h1]
theorem through_in {n_:SDesc→Int→List Int→Int→List Int→Prop} {d:SDesc} {i:Int} {w:List Int} (hw:w.length≤1000) {A:Nat→Nat} {B:Nat→Nat→Nat} (hB:∀k,k≤w.length→A k≠0→n_ d i w (k:Int) (zdb w.length fun q=>sat (B k q))):
  ref12_through.b n_ d i w (zdb w.length fun k=>sat (A k)) (zdb w.length fun q=>sat (zel (w.length+1) fun k=>A k*B k q)):=by
 refine ⟨_,zmr hw, ?_⟩;refine zhe (P:=fun k (o:List Int) v=>ref12_through.l1 n_ d i w (zdb w.length fun k=>sat (A k)) _ k o v) (w.length+1) (fun K o=>o=zdb w.length fun q=>sat (zel K fun k=>A k*B k q)) ?_ ?_ _ ?_
 ·rintro K o hK rfl;have e1:at? (zdb w.length fun k=>sat (A k)) (K:Int)=some (sat (A K)):=zg5 (by omega);refine .inr ⟨_,rfl,fun k hk=>⟨fun _=>⟨_,e1,fun h0=>?_,fun h0=>⟨zh (by omega) (by omega), ?_⟩⟩,fun hx=>absurd (by rw [zhy];omega) (df hx)⟩⟩
  ·have h0:A K≠0:=by have:=dt h0;unfold sat at this;omega
   refine ⟨_,hB K (by omega) h0,_,e1,_,zqk hw (fun q=>zg4 _) (fun q=>zg4 _) (zg4 _),zh (by omega) (by omega), ?_⟩;have:(zdb w.length fun q=>min 2 (sat (zel K fun k=>A k*B k q)+sat (A K)*sat (B K q)))=zdb w.length fun q=>sat (zel (K+1) fun k=>A k*B k q):=zbg fun q _=>by rw [sat_more,zc6]
   rw [this];exact hk
  ·have h0:A K=0:=by have:=df h0;unfold sat at this;omega
   have:(zdb w.length fun q=>sat (zel K fun k=>A k*B k q))=zdb w.length fun q=>sat (zel (K+1) fun k=>A k*B k q):=zbg fun q _=>by rw [zc6,h0];simp
   rw [this];exact hk
 ·rintro o rfl k;exact ⟨fun hx=>absurd (dt hx) (by rw [zhy];omega),fun _=>rfl⟩
 ·rfl
def zil (f:List Int→Nat):Nat→List Int→Nat
 | 0,u=>if u=[] then 1 else 0
 | t+1,u=>zeg (fun a b=>zil f t a*f b) u
theorem zik (f:List Int→Nat) (t:Nat) (u:List Int):zil f (t+1) u=zeg (fun a b=>zil f t a*f b) u:=rfl
def zi6 (f:List Int→Nat) (w:List Int) (p t q:Nat):Nat:=if p≤q then zil f t (seg w p q) else 0
def zjn (f:List Int→Nat) (w:List Int) (k q:Nat):Nat:=if k≤q then f (seg w k q) else 0
theorem powQ_succ {f:List Int→Nat} {w:List Int} {p t q:Nat} (hq:q≤w.length):zi6 f w p (t+1) q=zel (w.length+1) fun k=>zi6 f w p t k*zjn f w k q:=by
 unfold zi6 zjn
 by_cases h:p≤q
 ·rw [if_pos h,zik,cutS_seg (q-p) p q _ (by omega) hq];refine zd9 fun k hk=>?_
  by_cases h1:p≤k
  ·by_cases h2:k≤q
   ·rw [if_pos ⟨h1,h2⟩,if_pos h1,if_pos h2]
   ·rw [if_neg (by omega),if_neg h2];simp
  ·rw [if_neg (by omega),if_neg h1];simp
 ·rw [if_neg h];have:(fun k=>(if p≤k then zil f t (seg w p k) else 0)*if k≤q then f (seg w k q) else 0)=fun _=>0:=by
   funext k
   by_cases h1:p≤k
   ·rw [if_neg (show ¬ k≤q by omega)];simp
   ·rw [if_neg h1];simp
  rw [this,zie]
theorem times_l2 {n_:SDesc→Int→List Int→Int→List Int→Prop} {d:SDesc} {i:Int} {w:List Int} (hw:w.length≤1000) {A:Nat→Nat} {B:Nat→Nat→Nat} (hB:∀k,k≤w.length→A k≠0→n_ d i w (k:Int) (zdb w.length fun q=>sat (B k q))) (hz:∀k,B k k=0) {X:List Int→Prop}
  (hX:X (zdb w.length fun q=>sat (zel (w.length+1) fun k=>A k*B k q))):∃k,ref12_times.l2 n_ d i w (zdb w.length fun k=>sat (A k)) X k (zdb w.length fun _=>0) 0:=by
 refine zhe (P:=fun k (o:List Int) v=>ref12_times.l2 n_ d i w (zdb w.length fun k=>sat (A k)) X k o v) (w.length+1) (fun K o=>o=zdb w.length fun q=>sat (zel K fun k=>A k*B k q)) ?_ ?_ _ rfl
 ·rintro K o hK rfl;have e1:at? (zdb w.length fun k=>sat (A k)) (K:Int)=some (sat (A K)):=zg5 (by omega);refine .inr ⟨_,rfl,fun k hk=>⟨fun _=>⟨_,e1,fun h0=>?_,fun h0=>⟨zh (by omega) (by omega), ?_⟩⟩,fun hx=>absurd (by rw [zhy];omega) (df hx)⟩⟩
  ·have h0:A K≠0:=by have:=dt h0;unfold sat at this;omega
   have es:(zdb w.length fun q=>sat (B K q)).set (K:Int).toNat 0=zdb w.length fun q=>sat (B K q):=by
    rw [Int.toNat_natCast,zgz];refine zbg fun q _=>?_
    by_cases hq:q=K
    ·subst hq;rw [if_pos rfl,hz];rfl
    ·rw [if_neg hq]
   refine ⟨_,hB K (by omega) h0,_,zg5 (by omega),_,e1,_,by rw [es];exact zqk hw (fun q=>zg4 _) (fun q=>zg4 _) (zg4 _),zh (by omega) (by omega), ?_⟩;have:(zdb w.length fun q=>min 2 (sat (zel K fun k=>A k*B k q)+sat (A K)*sat (B K q)))=zdb w.length fun q=>sat (zel (K+1) fun k=>A k*B k q):=zbg fun q _=>by rw [sat_more,zc6]
   rw [this];exact hk
  ·have h0:A K=0:=by have:=df h0;unfold sat at this;omega
   have:(zdb w.length fun q=>sat (zel K fun k=>A k*B k q))=zdb w.length fun q=>sat (zel (K+1) fun k=>A k*B k q):=zbg fun q _=>by rw [zc6,h0];simp
   rw [this];exact hk
 ·rintro o rfl k;exact ⟨fun hx=>absurd (dt hx) (by rw [zhy];omega),fun _=>hX⟩
def zfr (w:List Int) (hi:Int):Nat:=if 0≤hi∧hi≤(w.length:Int)+1 then hi.toNat+1 else w.length+2
theorem times_in {n_:SDesc→Int→List Int→Int→List Int→Prop} {d:SDesc} {i:Int} {w:List Int} (hw:w.length≤1000) {p:Nat} (hp:p≤w.length) {f:List Int→Nat} (hf:f []=0) (lo hi:Int)
  (hB:∀k,p≤k→k≤w.length→n_ d i w (k:Int) (zdb w.length fun q=>sat (zjn f w k q))):
  ref12_times.b n_ d i w (p:Int) lo hi (zdb w.length fun q=>sat (zel (zfr w hi) fun t=>if lo≤(t:Int) then zi6 f w p t q else 0)):=by
 refine ⟨_,zmr hw,_,zg5 hp,_,zmr hw, ?_⟩;refine zhe (P:=fun k (s:List Int × List Int) v=>ref12_times.l1 n_ d i w lo hi _ _ k s.1 s.2 v) (w.length+2) (fun T s=>(s.1=zdb w.length fun q=>sat (zi6 f w p T q))∧(s.2=zdb w.length fun q=>sat (zel T fun t=>if lo≤(t:Int) then zi6 f w p t q else 0))∧(0≤hi→(T:Int)≤hi)) ?_ ?_ (_,_) ⟨?_,rfl,fun h=>by omega⟩
 ·rintro T ⟨now,out⟩ hT ⟨h1,h2,h3⟩;simp only at h1 h2;subst h1;subst h2;have es:∀q,zel (T+1) (fun t=>if lo≤(t:Int) then zi6 f w p t q else 0)=zel T (fun t=>if lo≤(t:Int) then zi6 f w p t q else 0)+if lo≤(T:Int) then zi6 f w p T q else 0:=fun q=>zc6 _ _
  have hplus:lo≤(T:Int)→zb0 (zdb w.length fun q=>sat (zel T fun t=>if lo≤(t:Int) then zi6 f w p t q else 0)) (zdb w.length fun q=>sat (zi6 f w p T q)) 1 (zdb w.length fun q=>sat (zel (T+1) fun t=>if lo≤(t:Int) then zi6 f w p t q else 0)):=fun hl=>by
   have:=zqk hw (g:=fun q=>sat (zel T fun t=>if lo≤(t:Int) then zi6 f w p t q else 0)) (h:=fun q=>sat (zi6 f w p T q)) (t:=1) (fun q=>zg4 _) (fun q=>zg4 _) (by omega);have e:(zdb w.length fun q=>min 2 (sat (zel T fun t=>if lo≤(t:Int) then zi6 f w p t q else 0)+1*sat (zi6 f w p T q)))=zdb w.length fun q=>sat (zel (T+1) fun t=>if lo≤(t:Int) then zi6 f w p t q else 0):=zbg fun q _=>by rw [sat_plus,es,if_pos hl]
   rw [e] at this;exact this
  have hsame:¬ lo≤(T:Int)→(zdb w.length fun q=>sat (zel T fun t=>if lo≤(t:Int) then zi6 f w p t q else 0))=zdb w.length fun q=>sat (zel (T+1) fun t=>if lo≤(t:Int) then zi6 f w p t q else 0):=fun hl=>zbg fun q _=>by rw [es,if_neg hl,Nat.add_zero]
  by_cases hhi:(T:Int)=hi
  ·-- the last one
   have eT:zfr w hi=T+1:=by unfold zfr;rw [if_pos (by omega)];omega
   refine .inl fun k=>⟨zh (by omega) (by omega),fun _=>⟨fun hl=>⟨_,hplus (dt hl),fun _=>?_,fun h=>absurd hhi (ne_of_beq_false h)⟩,fun hl=>⟨fun _=>?_,fun h=>absurd hhi (ne_of_beq_false h)⟩⟩,fun hx=>absurd (by omega) (df hx)⟩
   ·show zdb _ _=zdb _ _;rw [eT]
   ·show zdb _ _=zdb _ _;rw [eT,hsame (df hl)]
  ·have e2:(zdb w.length fun q=>sat (zel (w.length+1) fun k=>zi6 f w p T k*zjn f w k q))=zdb w.length fun q=>sat (zi6 f w p (T+1) q):=zbg fun q hq=>by rw [powQ_succ hq]
   have inner:∀(out':List Int) (k:Nat),(ref12_times.l1 n_ d i w lo hi (zdb w.length fun q=>sat (zel (zfr w hi) fun t=>if lo≤(t:Int) then zi6 f w p t q else 0)) (ref12_times.j1 (zdb w.length fun q=>sat (zel (zfr w hi) fun t=>if lo≤(t:Int) then zi6 f w p t q else 0))) k (zdb w.length fun q=>sat (zi6 f w p (T+1) q)) out' ((T:Int)+1)) →
     ref12_times.j3 n_ (ref12_times.l1 n_ d i w lo hi (zdb w.length fun q=>sat (zel (zfr w hi) fun t=>if lo≤(t:Int) then zi6 f w p t q else 0)) (ref12_times.j1 (zdb w.length fun q=>sat (zel (zfr w hi) fun t=>if lo≤(t:Int) then zi6 f w p t q else 0))) k) d i w hi (zdb w.length fun q=>sat (zel (zfr w hi) fun t=>if lo≤(t:Int) then zi6 f w p t q else 0)) (zdb w.length fun q=>sat (zi6 f w p T q)) (T:Int) out':=by
    intro out' k hk;refine ⟨fun h=>absurd (eq_of_beq h) hhi,fun _=>⟨_,zmr hw, ?_⟩⟩;refine times_l2 hw (A:=fun k=>zi6 f w p T k) (B:=zjn f w) (fun k hk hA=>hB k (by
     rcases Nat.lt_or_ge k p with h | h
     ·exact absurd (if_neg (by omega)) hA
     ·exact h) hk) (fun k=>by unfold zjn;rw [if_pos (Nat.le_refl k),zgx,hf]) ?_
    rw [e2];exact ⟨zh (by omega) (by omega),hk⟩
   refine .inr ⟨(_,_),⟨rfl,rfl,fun h=>by have:=h3 h;omega⟩,fun k hk=>⟨zh (by omega) (by omega),fun _=>⟨fun hl=>⟨_,hplus (dt hl),inner _ k hk⟩,fun hl=>by rw [hsame (df hl)];exact inner _ k hk⟩,fun hx=>absurd (by omega) (df hx)⟩⟩
 ·rintro ⟨now,out⟩ ⟨h1,h2,h3⟩ k;simp only at h1 h2;subst h1;subst h2;refine ⟨zh (by omega) (by omega),fun hx=>absurd (dt hx) (by omega),fun _=>?_⟩;show zdb _ _=zdb _ _;have eT:zfr w hi=w.length+2:=by unfold zfr;rw [if_neg (by omega)]
  rw [eT]
 ·simp only;rw [Int.toNat_natCast,zgz];refine zbg fun q hq=>?_;unfold zi6 zil
  by_cases h:q=p
  ·subst h;rw [if_pos rfl,if_pos (Nat.le_refl q),zgx];rfl
  ·rw [if_neg h]
   by_cases h1:p≤q
   ·rw [if_pos h1,if_neg]
    ·rfl
    ·rw [zes (by omega) hq];simp
   ·rw [if_neg h1];rfl
theorem zpq:∀(u:List Int) (g:List Int→List Int→List Int→Nat),zeg (fun a c=>zeg (fun x y=>g x y c) a) u=zeg (fun x e=>zeg (fun y c=>g x y c) e) u
 | [],g=>rfl
 | c::u,g=>by
  have ih:=zpq u (fun x y e=>g (c::x) y e);have e1:(fun a b=>zeg (fun x y=>g x y b) (c::a))=fun a b=>g [] (c::a) b+zeg (fun x y=>g (c::x) y b) a:=by
   funext a b;rfl
  have h1:zeg (fun a b=>zeg (fun x y=>g x y b) (c::a)) u=zeg (fun y e=>g [] (c::y) e) u+zeg (fun x e=>zeg (fun y b=>g (c::x) y b) e) u:=by rw [e1,zml,ih]
  have h2:zeg (fun a c=>zeg (fun x y=>g x y c) a) (c::u)=g [] [] (c::u)+zeg (fun a b=>zeg (fun x y=>g x y b) (c::a)) u:=rfl;have h3:zeg (fun x e=>zeg (fun y c=>g x y c) e) (c::u)=(g [] [] (c::u)+zeg (fun y e=>g [] (c::y) e) u)+zeg (fun x e=>zeg (fun y b=>g (c::x) y b) e) u:=rfl;exact h2.trans ((congrArg _ h1).trans ((Nat.add_assoc _ _ _).symm.trans h3.symm))
theorem cutS_mul (F:List Int→List Int→Nat) (m:Nat):∀u,zeg (fun a b=>F a b*m) u=zeg F u*m
 | []=>rfl
 | c::u=>by
  unfold zeg;rw [cutS_mul (fun a b=>F (c::a) b) m u,Nat.add_mul]
theorem cutS_lmul (F:List Int→List Int→Nat) (m:Nat):∀u,zeg (fun a b=>m*F a b) u=m*zeg F u
 | []=>rfl
 | c::u=>by
  unfold zeg;rw [cutS_lmul (fun a b=>F (c::a) b) m u,Nat.mul_add]
theorem zn3 (F:Nat→List Int→List Int→Nat) (u:List Int):∀T,zeg (fun a b=>zel T fun t=>F t a b) u=zel T fun t=>zeg (F t) u
 | 0=>by simp only [zel,List.range_zero,List.map_nil,List.sum_nil];exact zfx u
 | T+1=>by
  have e:(fun a b=>zel (T+1) fun t=>F t a b)=fun a b=>(zel T fun t=>F t a b)+F T a b:=by funext a b;rw [zc6]
  rw [e,zml,zn3 F u T,zc6]
theorem zj3 (m:Nat) (f:Nat→Nat):∀T,m*zel T f=zel T fun t=>m*f t
 | 0=>by simp [zel]
 | T+1=>by rw [zc6,zc6,Nat.mul_add,zj3 m f T]
theorem zo7 (T:Nat) (f:Nat→Nat):zel (T+1) f=f 0+zel T fun t=>f (t+1):=by
 induction T with
 | zero=>simp [zel]
 | succ T ih=>rw [zc6,ih,zc6];omega
theorem cut_first (F:List Int→List Int→Nat):∀u,(∀a b,a++b=u→a≠[]→F a b=0)→zeg F u=F [] u
 | [],_=>rfl
 | c::u,h=>by
  unfold zeg;rw [zez (G:=fun _ _=>0) fun a b e=>h (c::a) b (by simp [e]) (by simp),zfx];rfl
section
variable {f : List Int → Nat}
theorem zqj:∀(t:Nat) (u:List Int),zil f (t+1) u=zeg (fun a b=>f a*zil f t b) u
 | 0,u=>by
  rw [zik];have e1:zeg (fun a b=>zil f 0 a*f b) u=f u:=by
   rw [cut_first _ u fun a b _ ha=>by simp [zil,ha]];simp [zil]
  have e2:zeg (fun a b=>f a*zil f 0 b) u=f u:=by
   rw [zre fun a b _ hb=>by simp [zil,hb]];simp [zil]
  rw [e1,e2]
 | t+1,u=>by
  rw [zik];have e1:(fun a b=>zil f (t+1) a*f b)=fun a c=>zeg (fun x y=>f x*zil f t y*f c) a:=by
   funext a c;rw [zqj t a,cutS_mul]
  have e2:(fun x e=>zeg (fun y c=>f x*zil f t y*f c) e)=fun x e=>f x*zil f (t+1) e:=by
   funext x e;rw [zik,← cutS_lmul]
   congr 1
   funext y c;rw [Nat.mul_assoc]
  rw [e1,zpq,e2]
theorem pow_none (hf:f []=0):∀(t:Nat) (u:List Int),u.length<t→zil f t u=0
 | 0,u,h=>by omega
 | t+1,u,h=>by
  rw [zik];rw [zez (G:=fun _ _=>0) fun a b e=>?_,zfx]
  by_cases hb:b=[]
  ·rw [hb,hf,Nat.mul_zero]
  ·have hl:a.length<t:=by
    have:=congrArg List.length e;have:=List.length_pos_iff.2 hb;simp at *;omega
   rw [pow_none hf t a hl,Nat.zero_mul]
theorem pow_more (hf:f []=0) {T T':Nat} {u:List Int} (h:u.length<T) (h':T≤T') (c:Nat→Bool):(zel T' fun t=>if c t=true then zil f t u else 0)=zel T fun t=>if c t=true then zil f t u else 0:=by
 obtain ⟨m,rfl⟩:∃m,T'=T+m:=⟨T' - T,by omega⟩;clear h'
 induction m with
 | zero=>rfl
 | succ m ih=>
  rw [← Nat.add_assoc,zc6,ih,pow_none hf (T+m) u (by omega)];simp
theorem star_pow (hf:f []=0) {g:List Int→Nat} (hg:∀u,g u=(if u=[] then 1 else 0)+zeg (fun a b=>f a*g b) u):∀(m:Nat) (u:List Int),u.length≤m→∀T,u.length<T→g u=zel T fun t=>zil f t u
 | m,u,hm,T,hT=>by
  obtain ⟨T',rfl⟩:∃T',T=T'+1:=⟨T-1,by omega⟩;rw [hg,zo7]
  congr 1
  have e:zeg (fun a b=>f a*g b) u=zeg (fun a b=>zel T' fun t=>f a*zil f t b) u:=by
   refine zez fun a b e=>?_
   by_cases ha:a=[]
   ·rw [ha,hf,Nat.zero_mul,← zj3,Nat.zero_mul]
   ·have hl:b.length<u.length:=by
     have:=congrArg List.length e;have:=List.length_pos_iff.2 ha;simp at *;omega
    cases m with
    | zero=>omega
    | succ m=>rw [star_pow hf hg m b (by omega) T' (by omega),zj3]
  rw [e,zn3 (fun t a b=>f a*zil f t b)];exact zd9 fun t _=>(zqj t u).symm
theorem rep_pow {R:Int→Int→List Int→Nat} (hR:∀lo hi u,R lo hi u=(if lo=0∧u=[] then 1 else 0)+if 0<hi then zeg (fun a b=>f a*R (max (lo-1) 0) (hi-1) b) u else 0):∀(h:Nat) (lo:Int) (u:List Int),0≤lo→lo≤(h:Int)→R lo (h:Int) u=zel (h+1) fun t=>if lo≤(t:Int) then zil f t u else 0
 | 0,lo,u,h0,h1=>by
  have:lo=0:=by omega
  subst this;rw [hR,if_neg (show ¬ 0<((0:Nat):Int) by omega)];simp [zel,zil]
 | h+1,lo,u,h0,h1=>by
  rw [hR,if_pos (show 0<((h+1:Nat):Int) by omega),zo7];have e0:((h+1:Nat):Int)-1=(h:Int):=by omega
  rw [e0]
  congr 1
  ·by_cases hl:lo=0
   ·subst hl;simp [zil]
   ·rw [if_neg (by omega),if_neg (by omega)]
  ·have e:zeg (fun a b=>f a*R (max (lo-1) 0) (h:Int) b) u=zeg (fun a b=>zel (h+1) fun t=>f a*if max (lo-1) 0≤(t:Int) then zil f t b else 0) u:=by
    refine zez fun a b _=>?_;rw [rep_pow hR h (max (lo-1) 0) b (by omega) (by omega),zj3]
   rw [e,zn3 (fun t a b=>f a*if max (lo-1) 0≤(t:Int) then zil f t b else 0)];refine zd9 fun t _=>?_
   by_cases hl:lo≤((t+1:Nat):Int)
   ·rw [if_pos hl,zqj];refine zez fun a b _=>?_;rw [if_pos (by omega)]
   ·rw [if_neg hl,zez (G:=fun _ _=>0) fun a b _=>by rw [if_neg (by omega),Nat.mul_zero],zfx]
end
end Go.Proofs.YtkbboemafklkkaaGreatDoor.V
namespace Go.Proofs.YtkbboemafklkkaaGreatDoor.V
open Go
set_option linter.unusedVariables false
theorem zlb {w:List Int} {p q:Nat} (h:p≤q) (hq:q≤w.length):(seg w p q).length=q-p:=by
 unfold seg;rw [List.length_drop,List.length_take];omega
theorem zla {w:List Int} {p q:Nat} (h:p≤q) (hq:q≤w.length):seg w p q=[]↔q=p:=by
 constructor
 ·intro e;have:=zlb h hq;rw [e] at this;simp at this;omega
 ·rintro rfl;exact zgx w q
theorem pm_cnt {d:List SNode} (hd:ROk d) (r:Int):(pm d r).count []=0:=by
 rw [List.count_eq_zero];intro h;obtain ⟨x,q,e,_⟩:=PM_rng hd (r.toNat+1) r (by omega) _ h;cases e
def rowN (d:List SNode) (i:Int) (w:List Int) (p:Nat):List Int:=zdb w.length fun q=>sat (zjn (zb1 d i) w p q)
theorem conv_row {f g:List Int→Nat} {w:List Int} {p q:Nat} (hq:q≤w.length):(if p≤q then zeg (fun a b=>f a*g b) (seg w p q) else 0)=zel (w.length+1) fun k=>zjn f w p k*zjn g w k q:=by
 unfold zjn
 by_cases h:p≤q
 ·rw [if_pos h,cutS_seg (q-p) p q _ (by omega) hq];refine zd9 fun k hk=>?_
  by_cases h1:p≤k
  ·by_cases h2:k≤q
   ·rw [if_pos ⟨h1,h2⟩,if_pos h1,if_pos h2]
   ·rw [if_neg (by omega),if_neg h2];simp
  ·rw [if_neg (by omega),if_neg h1];simp
 ·rw [if_neg h];have:(fun k=>(if p≤k then f (seg w p k) else 0)*if k≤q then g (seg w k q) else 0)=fun _=>0:=by
   funext k
   by_cases h1:p≤k
   ·rw [if_neg (show ¬ k≤q by omega)];simp
   ·rw [if_neg h1];simp
  rw [this,zie]
section
variable {d : List SNode} (hd : ROk d) {i : Int} {n : SNode} (hn : at? d i = some n) {w : List Int} {p : Nat}
include hd hn
theorem row_empty (h:n.1=1):rowN d i w p=(zdb w.length fun _=>0).set p 1:=by
 rw [zgz];refine zbg fun q hq=>?_;unfold zjn
 by_cases h1:p≤q
 ·rw [if_pos h1,node_empty hd hn h]
  by_cases h2:q=p
  ·rw [if_pos ((zla h1 hq).2 h2),if_pos h2];rfl
  ·rw [if_neg (fun e=>h2 ((zla h1 hq).1 e)),if_neg h2];rfl
 ·rw [if_neg h1,if_neg (by omega)];rfl
theorem row_bytes (h:n.1=2):rowN d i w p=if hlt:p<w.length then (if n.2.2.2.2.2.1.has (w[p]).toNat=true then (zdb w.length fun _=>0).set (p+1) 1 else zdb w.length fun _=>0) else zdb w.length fun _=>0:=by
 have key:∀q,q≤w.length→zjn (zb1 d i) w p q=if hlt:p<w.length then (if n.2.2.2.2.2.1.has (w[p]).toNat=true∧q=p+1 then 1 else 0) else 0:=by
  intro q hq;unfold zjn
  by_cases h1:p≤q
  ·rw [if_pos h1,node_bytes hd hn h]
   by_cases h2:q=p
   ·subst h2;rw [zgx];simp only;split
    ·rw [if_neg (by omega)]
    ·rfl
   ·have hlt:p<w.length:=by omega
    rw [dif_pos hlt,zes (by omega) hq];simp only
    by_cases h3:q=p+1
    ·have:seg w (p+1) q=[]:=(zla (by omega) hq).2 h3;rw [this];simp [h3]
    ·have:¬ seg w (p+1) q=[]:=fun e=>h3 ((zla (by omega) hq).1 e);simp [this,h3]
  ·rw [if_neg h1];split
   ·rw [if_neg (by omega)]
   ·rfl
 by_cases hlt:p<w.length
 ·rw [dif_pos hlt]
  by_cases hh:n.2.2.2.2.2.1.has (w[p]).toNat=true
  ·rw [if_pos hh,zgz];refine zbg fun q hq=>?_;rw [key q hq,dif_pos hlt]
   by_cases h3:q=p+1
   ·rw [if_pos ⟨hh,h3⟩,if_pos h3];rfl
   ·rw [if_neg (by omega),if_neg h3];rfl
  ·rw [if_neg hh];refine zbg fun q hq=>?_;rw [key q hq,dif_pos hlt,if_neg (fun e=>hh e.1)];rfl
 ·rw [dif_neg hlt];refine zbg fun q hq=>?_;rw [key q hq,dif_neg hlt];rfl
theorem row_seq (h:n.1=4):rowN d i w p=zdb w.length fun q=>sat (zel (w.length+1) fun k=>zjn (zb1 d n.2.1) w p k*zjn (zb1 d n.2.2.1) w k q):=by
 refine zbg fun q hq=>?_;rw [← conv_row hq];unfold zjn
 by_cases h1:p≤q
 ·rw [if_pos h1,if_pos h1,node_seq hd hn h]
 ·rw [if_neg h1,if_neg h1]
theorem row_or (h:n.1=5):rowN d i w p=zdb w.length fun q=>min 2 (sat (zjn (zb1 d n.2.1) w p q)+1*sat (zjn (zb1 d n.2.2.1) w p q)):=by
 refine zbg fun q hq=>?_;rw [sat_plus];unfold zjn
 by_cases h1:p≤q
 ·rw [if_pos h1,if_pos h1,if_pos h1,node_or hd hn h]
 ·rw [if_neg h1,if_neg h1,if_neg h1]
theorem zkj (h:n.1=6∨n.1=7):zb1 d n.2.1 []=0:=by
 have:=zjt hd hn h;unfold zb1;simp only [wyn];rw [zlx,this];simp only [List.replicate_zero,List.flatten_nil,List.append_nil];exact pm_cnt hd n.2.1
theorem row_star (h:n.1=6):rowN d i w p=zdb w.length fun q=>sat (zel (zfr w (-1)) fun t=>if (0:Int)≤(t:Int) then zi6 (zb1 d n.2.1) w p t q else 0):=by
 refine zbg fun q hq=>?_;have eT:zfr w (-1)=w.length+2:=by unfold zfr;rw [if_neg (by omega)]
 rw [eT];unfold zjn zi6
 by_cases h1:p≤q
 ·rw [if_pos h1,star_pow (zkj hd hn (.inl h)) (fun u=>node_star hd hn h u) _ (seg w p q) (Nat.le_refl _) (w.length+2) (by rw [zlb h1 hq];omega)];refine congrArg sat (zd9 fun t _=>?_);rw [if_pos (by omega),if_pos h1]
 ·rw [if_neg h1];have:(fun t:Nat=>if (0:Int)≤(t:Int) then (if p≤q then zil (zb1 d n.2.1) t (seg w p q) else 0) else 0)=fun _=>0:=by
   funext t;rw [if_neg h1];simp
  rw [this,zie]
theorem row_rep (h:n.1=7):rowN d i w p=zdb w.length fun q=>sat (zel (zfr w n.2.2.2.2.1) fun t=>if n.2.2.2.1≤(t:Int) then zi6 (zb1 d n.2.1) w p t q else 0):=by
 obtain ⟨r0,r1,r2⟩:=hd.rep _ n hn h;obtain ⟨hi,hhi⟩:∃hi:Nat,n.2.2.2.2.1=(hi:Int):=⟨n.2.2.2.2.1.toNat,by omega⟩;refine zbg fun q hq=>?_;unfold zjn zi6
 by_cases h1:p≤q
 ·rw [if_pos h1,node_rep hd hn h,hhi,rep_pow (R:=fun lo hi u=>wyn d u [(2,i,lo,hi)]) (f:=zb1 d n.2.1) (fun lo hi u=>item_rep hd hn h lo hi u) hi n.2.2.2.1 (seg w p q) r0 (by omega)];have e1:(zel (zfr w (hi:Int)) fun t=>if n.2.2.2.1≤(t:Int) then (if p≤q then zil (zb1 d n.2.1) t (seg w p q) else 0) else 0)=zel (zfr w (hi:Int)) fun t=>if decide (n.2.2.2.1≤(t:Int))=true then zil (zb1 d n.2.1) t (seg w p q) else 0:=zd9 fun t _=>by
   rw [if_pos h1];simp
  have e2:(zel (hi+1) fun t=>if n.2.2.2.1≤(t:Int) then zil (zb1 d n.2.1) t (seg w p q) else 0)=zel (hi+1) fun t=>if decide (n.2.2.2.1≤(t:Int))=true then zil (zb1 d n.2.1) t (seg w p q) else 0:=zd9 fun t _=>by simp
  rw [e1,e2];unfold zfr
  by_cases h2:(hi:Int)≤(w.length:Int)+1
  ·rw [if_pos (by omega)]
   congr 2
  ·rw [if_neg (by omega),pow_more (zkj hd hn (.inr h)) (T:=w.length+2) (T':=hi+1) (by rw [zlb h1 hq];omega) (by omega)]
 ·rw [if_neg h1];have:(fun t:Nat=>if n.2.2.2.1≤(t:Int) then (if p≤q then zil (zb1 d n.2.1) t (seg w p q) else 0) else 0)=fun _=>0:=by
   funext t;rw [if_neg h1];simp
  rw [this,zie]
theorem row_text (h:n.1=3):rowN d i w p=if p+n.2.2.2.2.2.2.length≤w.length∧seg w p (p+n.2.2.2.2.2.2.length)=(n.2.2.2.2.2.2.map fun b=>(b.toNat:Int)) then (zdb w.length fun _=>0).set (p+n.2.2.2.2.2.2.length) 1 else zdb w.length fun _=>0:=by
 have key:∀q,q≤w.length→zjn (zb1 d i) w p q=if (p+n.2.2.2.2.2.2.length≤w.length∧seg w p (p+n.2.2.2.2.2.2.length)=(n.2.2.2.2.2.2.map fun b=>(b.toNat:Int)))∧q=p+n.2.2.2.2.2.2.length then 1 else 0:=by
  intro q hq;unfold zjn
  by_cases h1:p≤q
  ·rw [if_pos h1,node_text hd hn h]
   by_cases h2:q=p+n.2.2.2.2.2.2.length
   ·subst h2
    by_cases h3:seg w p (p+n.2.2.2.2.2.2.length)=(n.2.2.2.2.2.2.map fun b=>(b.toNat:Int))
    ·rw [if_pos h3,if_pos ⟨⟨hq,h3⟩,rfl⟩]
    ·rw [if_neg h3,if_neg fun e=>h3 e.1.2]
   ·rw [if_neg,if_neg fun e=>h2 e.2];intro e;have:=congrArg List.length e;rw [zlb h1 hq,List.length_map] at this;omega
  ·rw [if_neg h1,if_neg (by omega)]
 by_cases hc:p+n.2.2.2.2.2.2.length≤w.length∧seg w p (p+n.2.2.2.2.2.2.length)=(n.2.2.2.2.2.2.map fun b=>(b.toNat:Int))
 ·rw [if_pos hc,zgz];refine zbg fun q hq=>?_;rw [key q hq]
  by_cases h3:q=p+n.2.2.2.2.2.2.length
  ·rw [if_pos ⟨hc,h3⟩,if_pos h3];rfl
  ·rw [if_neg fun e=>h3 e.2,if_neg h3];rfl
 ·rw [if_neg hc];refine zbg fun q hq=>?_;rw [key q hq,if_neg fun e=>hc e.1];rfl
theorem row_frame (h:n.1=8) (hw:∀c∈w,0≤c):rowN d i w p=if hlt:p<w.length then (if p+1+(w[p]).toNat≤w.length then (zdb w.length fun _=>0).set (p+1+(w[p]).toNat) (sat (zb1 d n.2.1 (seg w (p+1) (p+1+(w[p]).toNat)))) else zdb w.length fun _=>0) else zdb w.length fun _=>0:=by
 have hs:∀a b,∀c∈seg w a b,0≤c:=fun a b c hc=>hw c (List.mem_of_mem_take (List.mem_of_mem_drop hc));have key:∀q,q≤w.length→zjn (zb1 d i) w p q=if hlt:p<w.length then (if q=p+1+(w[p]).toNat then zb1 d n.2.1 (seg w (p+1) q) else 0) else 0:=by
  intro q hq;unfold zjn
  by_cases h1:p≤q
  ·rw [if_pos h1]
   by_cases h2:q=p
   ·subst h2;have f0:zb1 d i []=0:=zpl hd hn h [] (by simp);rw [zgx,f0];split
    ·rw [if_neg (by omega)]
    ·rfl
   ·have hlt:p<w.length:=by omega
    have h0:=hw _ (List.getElem_mem hlt);have hsq:=hs p q;rw [zes (by omega) hq] at hsq;have f1:zb1 d i (w[p]::seg w (p+1) q)=if ((seg w (p+1) q).length:Int)=w[p] then zb1 d n.2.1 (seg w (p+1) q) else 0:=zpl hd hn h _ hsq
    rw [dif_pos hlt,zes (by omega) hq,f1];rw [zlb (by omega) hq]
    by_cases h3:q=p+1+(w[p]).toNat
    ·rw [if_pos h3,if_pos (by omega)]
    ·rw [if_neg h3,if_neg (by omega)]
  ·rw [if_neg h1];split
   ·rw [if_neg (by omega)]
   ·rfl
 by_cases hlt:p<w.length
 ·rw [dif_pos hlt]
  by_cases hh:p+1+(w[p]).toNat≤w.length
  ·rw [if_pos hh,zgz];refine zbg fun q hq=>?_;rw [key q hq,dif_pos hlt]
   by_cases h3:q=p+1+(w[p]).toNat
   ·rw [if_pos h3,if_pos h3,h3]
   ·rw [if_neg h3,if_neg h3];rfl
  ·rw [if_neg hh];refine zbg fun q hq=>?_;rw [key q hq,dif_pos hlt,if_neg (by omega)];rfl
 ·rw [dif_neg hlt];refine zbg fun q hq=>?_;rw [key q hq,dif_neg hlt];rfl
theorem row_wide (h:n.1=9) (hw:∀c∈w,0≤c):rowN d i w p=if hlt:p+1<w.length then (if p+2+(256*(w[p])+w[p+1]).toNat≤w.length then (zdb w.length fun _=>0).set (p+2+(256*(w[p])+w[p+1]).toNat) (sat (zb1 d n.2.1 (seg w (p+2) (p+2+(256*(w[p])+w[p+1]).toNat)))) else zdb w.length fun _=>0) else zdb w.length fun _=>0:=by
 have hs:∀a b,∀c∈seg w a b,0≤c:=fun a b c hc=>hw c (List.mem_of_mem_take (List.mem_of_mem_drop hc));have key:∀q,q≤w.length→zjn (zb1 d i) w p q=if hlt:p+1<w.length then (if q=p+2+(256*(w[p])+w[p+1]).toNat then zb1 d n.2.1 (seg w (p+2) q) else 0) else 0:=by
  intro q hq;unfold zjn
  by_cases h1:p≤q
  ·rw [if_pos h1]
   by_cases h2:q=p
   ·subst h2;have f0:zb1 d i []=0:=znk hd hn h [] (by simp);rw [zgx,f0];split
    ·rw [if_neg (by omega)]
    ·rfl
   ·have hsq:=hs p q
    by_cases h4:q=p+1
    ·rw [zes (by omega) hq,(zla (by omega) hq).2 h4] at hsq;have f1:zb1 d i [w[p]'(by omega)]=0:=znk hd hn h _ hsq;rw [zes (by omega) hq,(zla (by omega) hq).2 h4,f1];split
     ·rw [if_neg (by omega)]
     ·rfl
    ·have hlt:p+1<w.length:=by omega
     have h0:=hw _ (List.getElem_mem (show p<w.length by omega));have h5:=hw _ (List.getElem_mem hlt);rw [zes (by omega) hq,zes (by omega) hq] at hsq;have f1:zb1 d i (w[p]::w[p+1]::seg w (p+1+1) q)=if ((seg w (p+1+1) q).length:Int)=256*w[p]+w[p+1] then zb1 d n.2.1 (seg w (p+1+1) q) else 0:=znk hd hn h _ hsq
     rw [dif_pos hlt,zes (by omega) hq,zes (by omega) hq,f1];rw [zlb (by omega) hq]
     by_cases h3:q=p+2+(256*(w[p])+w[p+1]).toNat
     ·rw [if_pos h3,if_pos (by omega)]
     ·rw [if_neg h3,if_neg (by omega)]
  ·rw [if_neg h1];split
   ·rw [if_neg (by omega)]
   ·rfl
 by_cases hlt:p+1<w.length
 ·rw [dif_pos hlt]
  by_cases hh:p+2+(256*(w[p])+w[p+1]).toNat≤w.length
  ·rw [if_pos hh,zgz];refine zbg fun q hq=>?_;rw [key q hq,dif_pos hlt]
   by_cases h3:q=p+2+(256*(w[p])+w[p+1]).toNat
   ·rw [if_pos h3,if_pos h3,h3]
   ·rw [if_neg h3,if_neg h3];rfl
  ·rw [if_neg hh];refine zbg fun q hq=>?_;rw [key q hq,dif_pos hlt,if_neg (by omega)];rfl
 ·rw [dif_neg hlt];refine zbg fun q hq=>?_;rw [key q hq,dif_neg hlt];rfl
end
end Go.Proofs.YtkbboemafklkkaaGreatDoor.V
namespace Go.Proofs.YtkbboemafklkkaaGreatDoor.V
open Go
set_option linter.unusedVariables false
theorem strB_back (s:Str):strB (s.map fun b=>(b.toNat:Int))=s:=by
 unfold strB;rw [List.map_map];have:∀b∈s,((fun n:Int=>UInt8.ofNat n.toNat) ∘ fun b:UInt8=>(b.toNat:Int)) b=id b:=fun b _=>by simp
 rw [List.map_congr_left this,List.map_id]
theorem strB_iff {l:List Int} (hl:∀c∈l,InR .u8 c) {s:Str}:strB l=s↔l=s.map fun b=>(b.toNat:Int):=by
 constructor
 ·rintro rfl;unfold strB;rw [List.map_map];have:∀c∈l,((fun b:UInt8=>(b.toNat:Int)) ∘ fun n:Int=>UInt8.ofNat n.toNat) c=id c:=fun c hc=>by
   have:=zex.1 (hl c hc);simp only [Function.comp,id,UInt8.toNat_ofNat'];omega
  rw [List.map_congr_left this,List.map_id]
 ·rintro rfl;exact strB_back s
theorem ends_in {d:List SNode} (hd:ROk d) (ht:∀n∈d,n.2.2.2.2.2.2.length≤140737488351232):∀(k:Nat) (i:Int) (n:SNode),i<(k:Int)→at? d i=some n→∀(w:List Int),w.length≤1000→(∀c∈w,InR .u8 c)→∀p:Nat,p≤w.length→zcb.n k d i w (p:Int) (rowN d i w p)
 | 0,i,n,hi,hn,w,hw,hu,p,hp=>by have:=zbv hn;omega
 | k+1,i,n,hi,hn,w,hw,hu,p,hp=>by
  have ih:=ends_in hd ht k;have hw0:∀c∈w,0≤c:=fun c hc=>(zex.1 (hu c hc)).1;have hk9:=hd.kind _ n hn;have z:∀q:Nat,q≤w.length→at? (zdb w.length fun _=>(0:Int)) (q:Int)=some 0:=fun q hq=>zg5 hq;have hm:n∈d:=by
   obtain ⟨j,_,hj⟩:=zl7 hn;exact List.mem_of_getElem? hj
  have no:∀{a:Int},n.1≠a→¬ (n.1==a)=true:=fun h e=>h (eq_of_beq e);refine ⟨n,hn,_,zmr hw,fun h=>⟨0,z p hp, ?_⟩,fun k1=>⟨fun h=>?_,fun k2=>⟨fun h=>?_,fun k3=>⟨fun h=>?_,fun k4=>⟨fun h=>?_,fun k5=>⟨fun h=>?_,fun k6=>⟨fun h=>?_,fun k7=>⟨fun h=>?_,fun k8=>⟨fun h=>?_,fun k9=>?_⟩⟩⟩⟩⟩⟩⟩⟩⟩
  ·rw [row_empty hd hn (eq_of_beq h),Int.toNat_natCast]
  ·-- a byte of a class
   rw [row_bytes hd hn (eq_of_beq h)]
   by_cases hlt:p<w.length
   ·rw [dif_pos hlt];have hat:at? w (p:Int)=some w[p]:=by rw [zbn];simp [hlt]
    refine ⟨w[p],fun _=>hat,_,fun _=>zlv (hu _ (List.getElem_mem hlt)),fun hb=>?_,fun hb=>?_⟩
    ·simp only [Bool.and_eq_true,decide_eq_true_eq] at hb;have e:(p:Int)+1=((p+1:Nat):Int):=by omega
     rw [if_pos hb.2,e];exact ⟨zh (by omega) (by omega),0,z _ (by omega),by rw [Int.toNat_natCast]⟩
    ·have hh:¬ n.2.2.2.2.2.1.has (w[p]).toNat=true:=by
      intro e;rw [e] at hb;simp at hb;omega
     rw [if_neg hh]
   ·rw [dif_neg hlt];exact ⟨0,fun hx=>absurd (dt hx) (by omega),false,fun hx=>absurd (dt hx) (by omega),fun hb=>by simp at hb,fun _=>rfl⟩
  ·-- a text
   rw [row_text hd hn (eq_of_beq h)];have htl:=ht n hm;have e:(p:Int)+(n.2.2.2.2.2.2.length:Int)=((p+n.2.2.2.2.2.2.length:Nat):Int):=by omega
   have hsu:∀c∈seg w p (p+n.2.2.2.2.2.2.length),InR .u8 c:=fun c hc=>hu c (List.mem_of_mem_take (List.mem_of_mem_drop hc));rw [e];refine ⟨zh (by omega) (by omega),_,rfl,fun hb=>zh (by omega) (by omega),fun hb=>?_,_,rfl,fun hb=>?_,fun hb=>?_⟩
   ·have:=dt hb;omega
   ·simp only [Bool.and_eq_true,decide_eq_true_eq,beq_iff_eq] at hb;obtain ⟨b1,b2⟩:=hb;have b2':seg w p (p+n.2.2.2.2.2.2.length)=_:=(strB_iff hsu).1 b2;rw [if_pos ⟨by omega,b2'⟩];exact ⟨zh (by omega) (by omega),0,z _ (by omega),by rw [Int.toNat_natCast]⟩
   ·rw [if_neg];rintro ⟨b1,b2⟩;have b2':strB ((w.take ((p+n.2.2.2.2.2.2.length:Nat):Int).toNat).drop ((p:Nat):Int).toNat)=n.2.2.2.2.2.2:=(strB_iff hsu).2 b2;rw [b2'] at hb;simp at hb;omega
  ·-- one behind the other
   have h4:=eq_of_beq h;obtain ⟨⟨a,b⟩,c,e⟩:=hd.two _ n hn (.inl h4);obtain ⟨m1,hm1⟩:=zdq hn a b;obtain ⟨m2,hm2⟩:=zdq hn c e;refine ⟨_,ih _ m1 (by omega) hm1 w hw hu p hp,_,through_in hw (A:=fun k=>zjn (zb1 d n.2.1) w p k) (B:=zjn (zb1 d n.2.2.1) w) (fun q hq _=>ih _ m2 (by omega) hm2 w hw hu q hq), ?_⟩;rw [row_seq hd hn h4]
  ·have h5:=eq_of_beq h;obtain ⟨⟨a,b⟩,c,e⟩:=hd.two _ n hn (.inr h5);obtain ⟨m1,hm1⟩:=zdq hn a b;obtain ⟨m2,hm2⟩:=zdq hn c e;refine ⟨_,ih _ m1 (by omega) hm1 w hw hu p hp,_,ih _ m2 (by omega) hm2 w hw hu p hp,_,zqk hw (fun q=>zg4 _) (fun q=>zg4 _) (by omega), ?_⟩;rw [row_or hd hn h5]
  ·have h6:=eq_of_beq h;obtain ⟨a,b⟩:=hd.one _ n hn (.inl h6);obtain ⟨m1,hm1⟩:=zdq hn a b;refine ⟨_,times_in hw hp (zkj hd hn (.inl h6)) 0 (-1) (fun q _ hq=>ih _ m1 (by omega) hm1 w hw hu q hq), ?_⟩;rw [row_star hd hn h6]
  ·have h7:=eq_of_beq h;obtain ⟨a,b⟩:=hd.one _ n hn (.inr (.inl h7));obtain ⟨m1,hm1⟩:=zdq hn a b;refine ⟨_,times_in hw hp (zkj hd hn (.inr h7)) _ _ (fun q _ hq=>ih _ m1 (by omega) hm1 w hw hu q hq), ?_⟩;rw [row_rep hd hn h7]
  ·-- a frame
   have h8:=eq_of_beq h;obtain ⟨a,b⟩:=hd.one _ n hn (.inr (.inr (.inl h8)));obtain ⟨m1,hm1⟩:=zdq hn a b;rw [row_frame hd hn h8 hw0];refine ⟨fun hx=>?_,fun hx=>by rw [dif_neg (by have:=df hx;omega)]⟩;have hlt:p<w.length:=by have:=dt hx;omega
   have hat:at? w (p:Int)=some w[p]:=by rw [zbn];simp [hlt]
   have hb:=zex.1 (hu _ (List.getElem_mem hlt));have e:(p:Int)+1+w[p]=((p+1+(w[p]).toNat:Nat):Int):=by omega
   rw [dif_pos hlt];refine ⟨zh (by omega) (by omega),w[p],hat,zh (by omega) (by omega),fun hy=>?_,fun hy=>by rw [if_neg (by have:=df hy;omega)]⟩;have hle:p+1+(w[p]).toNat≤w.length:=by have:=dt hy;omega
   rw [if_pos hle,e,Int.toNat_natCast];have hwt:(w.take (p+1+(w[p]).toNat)).length=p+1+(w[p]).toNat:=by rw [List.length_take];omega
   have e1:(p:Int)+1=((p+1:Nat):Int):=by omega
   refine ⟨⟨by omega,by omega⟩,zh (by omega) (by omega),_,by rw [e1];exact ih _ m1 (by omega) hm1 (w.take (p+1+(w[p]).toNat)) (by omega) (fun c hc=>hu c (List.mem_of_mem_take hc)) (p+1) (by omega),_,by unfold rowN;exact zg5 (by omega),0,z _ hle, ?_⟩;have es:seg (w.take (p+1+(w[p]).toNat)) (p+1) (p+1+(w[p]).toNat)=seg w (p+1) (p+1+(w[p]).toNat):=by unfold seg;rw [List.take_take,Nat.min_self]
   unfold zjn;rw [if_pos (by omega),es]
  ·have h9:=eq_of_beq h;obtain ⟨a,b⟩:=hd.one _ n hn (.inr (.inr (.inr h9)));obtain ⟨m1,hm1⟩:=zdq hn a b;rw [row_wide hd hn h9 hw0];refine ⟨zh (by omega) (by omega),fun hx=>?_,fun hx=>by rw [dif_neg (by have:=df hx;omega)]⟩;have hlt:p+1<w.length:=by have:=dt hx;omega
   have hat:at? w (p:Int)=some w[p]:=by rw [zbn];simp [show p<w.length by omega]
   have e1:(p:Int)+1=((p+1:Nat):Int):=by omega
   have hat1:at? w ((p:Int)+1)=some w[p+1]:=by rw [e1,zbn];simp [hlt]
   have hb:=zex.1 (hu _ (List.getElem_mem (show p<w.length by omega)));have hb1:=zex.1 (hu _ (List.getElem_mem hlt));have e:(p:Int)+2+256*w[p]+w[p+1]=((p+2+(256*w[p]+w[p+1]).toNat:Nat):Int):=by omega
   rw [dif_pos hlt];refine ⟨zh (by omega) (by omega),w[p],hat,zh (by omega) (by omega),zh (by omega) (by omega),zh (by omega) (by omega),w[p+1],hat1,zh (by omega) (by omega),_,rfl,fun hy=>?_,fun hy=>by rw [if_neg (by have:=df hy;omega)]⟩;have hle:p+2+(256*w[p]+w[p+1]).toNat≤w.length:=by have:=dt hy;omega
   rw [if_pos hle,e,Int.toNat_natCast];have hwt:(w.take (p+2+(256*w[p]+w[p+1]).toNat)).length=p+2+(256*w[p]+w[p+1]).toNat:=by rw [List.length_take];omega
   have e2:(p:Int)+2=((p+2:Nat):Int):=by omega
   refine ⟨⟨by omega,by omega⟩,zh (by omega) (by omega),_,by rw [e2];exact ih _ m1 (by omega) hm1 (w.take (p+2+(256*w[p]+w[p+1]).toNat)) (by omega) (fun c hc=>hu c (List.mem_of_mem_take hc)) (p+2) (by omega),_,by unfold rowN;exact zg5 (by omega),0,z _ hle, ?_⟩;have es:seg (w.take (p+2+(256*w[p]+w[p+1]).toNat)) (p+2) (p+2+(256*w[p]+w[p+1]).toNat)=seg w (p+2) (p+2+(256*w[p]+w[p+1]).toNat):=by unfold seg;rw [List.take_take,Nat.min_self]
   unfold zjn;rw [if_pos (by omega),es]
  ·exfalso;have j1:=ne_of_beq_false k1;have j2:=ne_of_beq_false k2;have j3:=ne_of_beq_false k3;have j4:=ne_of_beq_false k4;have j5:=ne_of_beq_false k5;have j6:=ne_of_beq_false k6;have j7:=ne_of_beq_false k7;have j8:=ne_of_beq_false k8;have j9:=ne_of_beq_false k9;omega
theorem zkd {d:List SNode} (h:Rt d) (hl:d.length≤1000) (ht:∀n∈d,n.2.2.2.2.2.2.length≤140737488351232) {w:List Int} (hw:w.length≤1000) (hu:∀c∈w,InR .u8 c):zhi d w (sat (zb1 d ((d.length:Int)-1) w)):=by
 have hr:=h.tr.le;obtain ⟨m,hm,_⟩:=zob (xs:=d) (i:=(d.length:Int)-1) hr.2 (by omega);refine ⟨zh (by omega) (by omega),_,⟨d.length,ends_in h.toROk ht d.length _ m (by omega) hm w hw hu 0 (by omega)⟩,_,by unfold rowN;exact zg5 (Nat.le_refl _), ?_⟩;have es:seg w 0 w.length=w:=by unfold seg;simp
 unfold zjn;rw [if_pos (by omega),es]
theorem heads_few {d:List SNode} {s:List SItem} (h:Sm d s) {B:List SBranch} (hB:Can (fun t=>(hds d s).count t) B):B.length≤10001:=by
 have h0:=zrg hB (U:=CS d s) fun t ht=>hds_CS d s t (List.count_pos_iff.1 (by omega));have h1:=CS_few h.rt s;have h3:=h.slen;have h4:s.length*(d.length+1)≤400*25:=Nat.mul_le_mul h3 (by have:=h.len;omega);omega
theorem heads_ok {d:List SNode} {s:List SItem} (h:Sm d s) {t:List SItem} (ht:(hds d s).count t≠0):t.length≤424∧rdy d t=true∧zd2 d t=true:=by
 obtain ⟨L,⟨k,hk⟩,hp⟩:=hds_lv h.rt.toROk s h.form;have hm:t∈L:=hp.mem_iff.2 (List.count_pos_iff.1 (by omega));obtain ⟨h1,h2⟩:=lv_vs h.rt.toROk (n0:=400) k s L hk (Vs.start h.form h.slen) t hm;have:=h1.len;have:=h.len;exact ⟨by omega,h2,h1.form⟩
def fB (d:List SNode) (c:Int) (B:List SBranch) (u:List SItem):Nat:=(B.map fun b=>if (zx d b.1 c).2=true∧(zx d b.1 c).1=u then b.2.toNat else 0).sum
theorem fB_snoc (d:List SNode) (c:Int) (B:List SBranch) (b:SBranch) (u:List SItem):fB d c (B++[b]) u=fB d c B u+if (zx d b.1 c).2=true∧(zx d b.1 c).1=u then b.2.toNat else 0:=by
 simp [fB]
theorem fB_pos {d:List SNode} {c:Int} {B:List SBranch} {u:List SItem} (h:fB d c B u≠0):∃b∈B,(zx d b.1 c).2=true∧(zx d b.1 c).1=u:=by
 induction B with
 | nil=>simp [fB] at h
 | cons b B ih=>
  by_cases hb:(zx d b.1 c).2=true∧(zx d b.1 c).1=u
  ·exact ⟨b,by simp,hb⟩
  ·have e:fB d c (b::B) u=fB d c B u:=by
    unfold fB;rw [List.map_cons,List.sum_cons,if_neg hb,Nat.zero_add]
   rw [e] at h;obtain ⟨b',h1,h2⟩:=ih h;exact ⟨b',by simp [h1],h2⟩
structure HOk (d:List SNode) (B:List SBranch):Prop where
 few:B.length≤10001
 ok:∀b∈B,b.1.length≤424∧rdy d b.1=true∧zd2 d b.1=true
 many:∀b∈B,1≤b.2∧b.2≤2
theorem Sm.hok {d:List SNode} {s:List SItem} (h:Sm d s) {B:List SBranch} (hB:Can (fun t=>(hds d s).count t) B):HOk d B:=
 ⟨heads_few h hB,fun b hb=>heads_ok h (hB.many hb).2.1,fun b hb=>(hB.many hb).2.2⟩
theorem fB_read {d:List SNode} {c:Int} {B:List SBranch} (h:HOk d B) {u:List SItem} (hu:fB d c B u≠0):u.length≤425:=by
 obtain ⟨b,hb,_,rfl⟩:=fB_pos hu;have:=zkf d b.1 c;have:=(h.ok b hb).1;omega
theorem onB_len {d:List SNode} {c:Int} {B:List SBranch} {R:List SBranch} (hR:Can (fB d c B) R):R.length≤B.length:=by
 have:=zrg hR (U:=B.map fun b=>(zx d b.1 c).1) fun u hu=>by
  obtain ⟨b,hb,_,e⟩:=fB_pos hu;exact List.mem_map.2 ⟨b,hb,e⟩
 simpa using this
theorem HOk.take {d:List SNode} {B:List SBranch} (h:HOk d B) (i:Nat):HOk d (B.take i):=
 ⟨by have:=h.few;rw [List.length_take];omega,fun b hb=>h.ok b (List.mem_of_mem_take hb),fun b hb=>h.many b (List.mem_of_mem_take hb)⟩
section
variable {d : List SNode} (hd : ROk d) (hl : d.length ≤ 1000) (ht : ∀ n ∈ d,n.2.2.2.2.2.2.length ≤ 140737488351232) {c : Int} (hc : InR .u8 c) {B : List SBranch} (hB : HOk d B)
include hd hl ht hc hB
theorem ref15_On_l:∃R,(∃k,zet.l1 d c B (zet.j1 R) k [] 0)∧Can (fB d c B) R:=by
 have key:∀(m i:Nat) (out:List SBranch),i+m=B.length→Can (fB d c (B.take i)) out→∃(R:List SBranch) (k:Nat),zet.l1 d c B (zet.j1 R) k out (i:Int)∧Can (fB d c B) R:=by
  intro m
  induction m with
  | zero=>
   intro i out hi ho;rw [List.take_of_length_le (by omega)] at ho;exact ⟨out,1,⟨fun h=>absurd (dt h) (by omega),fun _=>rfl⟩,ho⟩
  | succ m ih=>
   intro i out hi ho;have hil:i<B.length:=by omega
   have hat:at? B (i:Int)=some B[i]:=by rw [zbn];simp [hil]
   have hbm:=List.getElem_mem hil;obtain ⟨b1,b2,b3⟩:=hB.ok _ hbm;obtain ⟨m1,m2⟩:=hB.many _ hbm;have hrd:=zp8 hd hl ht (by omega) b3 b2 hc;have e:=fB_snoc d c (B.take i) B[i];rw [← List.take_succ_eq_append_getElem hil] at e;have hfew:=hB.few;cases hr:(zx d B[i].1 c).2
   ·obtain ⟨R,k,hk1,hk2⟩:=ih (i+1) out (by omega) (ho.congr fun t=>by rw [e,hr];simp);exact ⟨R,k+1,⟨fun _=>⟨_,hat,_,hrd,(fun h=>by rw [hr] at h;cases h),fun _=>⟨zh (by omega) (by omega),hk1⟩⟩,fun h=>absurd (by omega) (df h)⟩,hk2⟩
   ·have hn:(B[i].2.toNat:Nat)≠0:=by omega
    have hsat:sat B[i].2.toNat=B[i].2:=by unfold sat;omega
    have hadd:=ho.add (zx d B[i].1 c).1 hn;rw [hsat] at hadd;have hol:=onB_len ho;have hbo:BrOk out:=ho.brok fun t ht=>by have:=fB_read (hB.take i) ht;omega
    have hrl:=zkf d B[i].1 c;obtain ⟨R,k,hk1,hk2⟩:=ih (i+1) (zl3 (zx d B[i].1 c).1 B[i].2 out) (by omega) (hadd.congr fun t=>by
     rw [e,hr];simp only [true_and,eq_comm])
    exact ⟨R,k+1,⟨fun _=>⟨_,hat,_,hrd,fun _=>⟨_,hat,_,zlu ho.srt hbo (by rw [List.length_take] at hol;omega) (by omega) ⟨by omega,by omega⟩,zh (by omega) (by omega),hk1⟩,(fun h=>by rw [hr] at h;cases h)⟩,fun h=>absurd (by omega) (df h)⟩,hk2⟩
 obtain ⟨R,k,h1,h2⟩:=key B.length 0 [] (by omega) (Can.nil.congr fun t=>by simp [fB]);exact ⟨R,⟨k,h1⟩,h2⟩
structure MapN (f:List SItem→Nat) (m:List (Str × Int)):Prop where
 kn:KN m
 mem:∀k v,(k,v)∈m↔∃u,k=keyS u∧f u≠0∧v=sat (f u)
omit hd hl ht hc hB in
theorem MapN.get {f:List SItem→Nat} {m} (h:MapN f m) (u:List SItem):zd6 m (keyS u) (0:Int)=sat (f u):=by
 by_cases hu:f u=0
 ·rw [zhn fun p hp e=>?_]
  ·rw [hu];rfl
  ·obtain ⟨k,v⟩:=p
   obtain ⟨w,h1,h2,_⟩:=(h.mem k v).1 hp
   simp only at e
   rw [e] at h1
   rw [zf8.1 h1] at hu
   exact h2 hu
 ·have hm:=(h.mem (keyS u) (sat (f u))).2 ⟨u,rfl,hu,rfl⟩
  exact zmg h.kn hm (0:Int)
omit hd hl ht hc hB in
theorem MapN.put {f:List SItem→Nat} {m} (h:MapN f m) (u:List SItem) {n:Nat} (hn:n≠0) {v:Int} (hv:v=sat (f u+n)):MapN (fun t=>f t+if t=u then n else 0) (zfu m (keyS u) v):=by
 refine ⟨mput_kn h.kn _ _,fun k w=>?_⟩
 rw [zqq,h.mem,Prod.mk.injEq]
 constructor
 ·rintro (⟨h1,h2⟩ | ⟨h1,u',h2,h3,h4⟩)
  ·exact ⟨u,h1,by simp;omega,by rw [h2,hv];simp⟩
  ·have hne:u'≠u:=fun e=>h1 (by rw [h2,e])
   exact ⟨u',h2,by simp [hne,h3],by rw [h4];simp [hne]⟩
 ·rintro ⟨u',h1,h2,h3⟩
  by_cases e:u'=u
  ·subst e;exact .inl ⟨h1,by rw [h3,hv];simp⟩
  ·refine .inr ⟨fun e'=>e (zf8.1 (h1.symm.trans e')),u',h1, ?_, ?_⟩
   ·simpa [e] using h2
   ·rw [h3];simp [e]
theorem next_On_l:∃R,(∃k,zbm.l2 d c B (zbm.j2 R) k [] [] 0)∧Can (fB d c B) R:=by
 have hfew:=hB.few;have last:∀(many:List (Str × Int)) (out:List SBranch),MapN (fB d c B) many→(out.map (·.1)).Nodup→(∀u,u∈out.map (·.1)↔fB d c B u≠0)→out.length≤10001→∃R,zbm.j2 R many out∧Can (fB d c B) R:=by
  intro many out hm hn ho hlen;have hlo:∀b∈out,b.1.length≤1000:=fun b hb=>by
   have:=fB_read hB ((ho b.1).1 (List.mem_map.2 ⟨b,hb,rfl⟩));omega
  let out':=out.map fun b=>(b.1,sat (fB d c B b.1))
  have e1:out'.map (·.1)=out.map (·.1):=by simp [out',Function.comp_def]
  have hn':(out'.map (·.1)).Nodup:=by rw [e1];exact hn
  have hcan:Can (fB d c B) (srtB out'):=by
   refine ⟨zmd hn',fun t m=>?_⟩;rw [(zgg out').mem_iff];constructor
   ·intro h;obtain ⟨b,hb,e⟩:=List.mem_map.1 h;simp only [Prod.mk.injEq] at e;obtain ⟨rfl,rfl⟩:=e;exact ⟨(ho _).1 (List.mem_map.2 ⟨b,hb,rfl⟩),rfl⟩
   ·rintro ⟨h1,h2⟩;obtain ⟨b,hb,e⟩:=List.mem_map.1 ((ho t).2 h1);exact List.mem_map.2 ⟨b,hb,by rw [e,h2]⟩
  refine ⟨srtB out', ?_,hcan⟩;refine zhe (P:=fun k (o:List SBranch) v=>zbm.l1 many out (zbm.j1 (srtB out')) k o v) out.length (fun i o=>o=out'.take i++out.drop i) ?_ ?_ out (by simp)
  ·rintro i o hi rfl;have hl1:(out'.take i).length=i:=by simp [out'];omega
   have hat:at? (out'.take i++out.drop i) (i:Int)=some out[i]:=by
    rw [zbn,List.getElem?_append_right (by omega),hl1,Nat.sub_self];simp [hi]
   have hset:(out'.take i++out.drop i).set i (out[i].1,sat (fB d c B out[i].1))=out'.take (i+1)++out.drop (i+1):=by
    rw [List.set_append_right _ _ (by omega),hl1,Nat.sub_self,List.drop_eq_getElem_cons hi,List.set_cons_zero,List.take_succ_eq_append_getElem (show i<out'.length by simp [out'];exact hi)];simp [out']
   refine .inr ⟨_,rfl,fun k hk=>⟨fun _=>⟨_,hat,_,⟨hlo _ (List.getElem_mem hi),rfl⟩,_,hat,zh (by omega) (by omega), ?_⟩,fun h=>absurd (by omega) (df h)⟩⟩;rw [hm.get,Int.toNat_natCast,hset];exact hk
  ·rintro o rfl k;refine ⟨fun h=>absurd (dt h) (by omega),fun _=>?_⟩;have hl2:out'.length=out.length:=by simp [out']
   rw [List.take_of_length_le (by omega),List.drop_length,List.append_nil];exact ⟨_,⟨hn',fun b hb=>by
    obtain ⟨b',hb',rfl⟩:=List.mem_map.1 hb;exact hlo b' hb',by omega,rfl⟩,rfl⟩
 have key:∀(m i:Nat) (many:List (Str × Int)) (out:List SBranch),i+m=B.length→MapN (fB d c (B.take i)) many→(out.map (·.1)).Nodup→(∀u,u∈out.map (·.1)↔fB d c (B.take i) u≠0)→out.length≤i→∃(R:List SBranch) (k:Nat),zbm.l2 d c B (zbm.j2 R) k many out (i:Int)∧Can (fB d c B) R:=by
  intro m
  induction m with
  | zero=>
   intro i many out hi hm hn ho hlen;rw [List.take_of_length_le (by omega)] at hm ho;obtain ⟨R,h1,h2⟩:=last many out hm hn ho (by omega);exact ⟨R,1,⟨fun h=>absurd (dt h) (by omega),fun _=>h1⟩,h2⟩
  | succ m ih=>
   intro i many out hi hm hn ho hlen;have hil:i<B.length:=by omega
   have hat:at? B (i:Int)=some B[i]:=by rw [zbn];simp [hil]
   have hbm:=List.getElem_mem hil;obtain ⟨b1,b2,b3⟩:=hB.ok _ hbm;obtain ⟨m1,m2⟩:=hB.many _ hbm;have hrd:=next_Read_in hd hl ht (by omega) b3 b2 hc;have hrl:=zkf d B[i].1 c;have e:=fB_snoc d c (B.take i) B[i];rw [← List.take_succ_eq_append_getElem hil] at e;cases hr:(zx d B[i].1 c).2
   ·have e0:∀u,fB d c (B.take (i+1)) u=fB d c (B.take i) u:=fun u=>by rw [e,hr];simp
    have e0':fB d c (B.take (i+1))=fB d c (B.take i):=funext e0;obtain ⟨R,k,hk1,hk2⟩:=ih (i+1) many out (by omega) (by rw [e0'];exact hm) hn (by rw [e0'];exact ho) (by omega);exact ⟨R,k+1,⟨fun _=>⟨_,hat,_,hrd,fun _=>⟨zh (by omega) (by omega),hk1⟩,(fun h=>by rw [hr] at h;cases h)⟩,fun h=>absurd (by omega) (df h)⟩,hk2⟩
   ·have hn0:B[i].2.toNat≠0:=by omega
    have hg:=hm.get (zx d B[i].1 c).1;have hv:min (zd6 many (keyS (zx d B[i].1 c).1) 0+B[i].2) 2=sat (fB d c (B.take i) (zx d B[i].1 c).1+B[i].2.toNat):=by
     rw [hg];unfold sat;omega
    have e0':fB d c (B.take (i+1))=fun t=>fB d c (B.take i) t+if t=(zx d B[i].1 c).1 then B[i].2.toNat else 0:=funext fun u=>by
     rw [e,hr];simp only [true_and,eq_comm]
    have hput:=hm.put (zx d B[i].1 c).1 hn0 hv;rw [← e0'] at hput;have hin:InR .i64 (zd6 many (keyS (zx d B[i].1 c).1) 0+B[i].2):=by rw [hg];unfold sat;exact zh (by omega) (by omega)
    by_cases h0:fB d c (B.take i) (zx d B[i].1 c).1=0
    ·obtain ⟨R,k,hk1,hk2⟩:=ih (i+1) _ (out++[((zx d B[i].1 c).1,0)]) (by omega) hput (by
      rw [List.map_append,List.nodup_append];refine ⟨hn,by simp,fun a ha b hb e=>?_⟩;simp at hb;subst hb;subst e;exact (ho _).1 ha h0) (fun u=>by
      rw [e0',List.map_append,List.mem_append,ho]
      by_cases hu:u=(zx d B[i].1 c).1
      ·subst hu;simp;omega
      ·simp [hu]) (by simp;omega)
     refine ⟨R,k+1,⟨fun _=>⟨_,hat,_,hrd,fun h=>by rw [hr] at h;simp at h,fun _=>⟨_,⟨by omega,rfl⟩,fun _=>⟨by simp;omega,hin,zh (by omega) (by omega),hk1⟩,fun h=>?_⟩⟩,fun h=>absurd (by omega) (df h)⟩,hk2⟩;rw [hg,h0] at h;simp [sat] at h
    ·obtain ⟨R,k,hk1,hk2⟩:=ih (i+1) _ out (by omega) hput hn (fun u=>by
      rw [e0',ho]
      by_cases hu:u=(zx d B[i].1 c).1
      ·subst hu;simp [h0]
      ·simp [hu]) (by omega)
     refine ⟨R,k+1,⟨fun _=>⟨_,hat,_,hrd,fun h=>by rw [hr] at h;simp at h,fun _=>⟨_,⟨by omega,rfl⟩,fun h=>?_,fun _=>⟨hin,zh (by omega) (by omega),hk1⟩⟩⟩,fun h=>absurd (by omega) (df h)⟩,hk2⟩;exfalso;rw [hg] at h;have:=eq_of_beq h;unfold sat at this;omega
 obtain ⟨R,k,h1,h2⟩:=key B.length 0 [] [] (by omega) ⟨List.nodup_nil,fun k v=>by simp [fB]⟩ (by simp) (by simp [fB]) (by simp);exact ⟨R,⟨k,h1⟩,h2⟩
end
theorem on_both {d:List SNode} {s:List SItem} (h:Sm d s) {c:Int} (hc:InR .u8 c):∃B R,zfl d s B∧Can (fun t=>(hds d s).count t) B∧zbm d s c R∧zet d s c R∧Can (fB d c B) R:=by
 obtain ⟨B,b1,b2,b3⟩:=zlm h;have hB:=h.hok b3;have hl:d.length≤1000:=by have:=h.len;omega
 obtain ⟨R,⟨k,h1⟩,h2⟩:=next_On_l h.rt.toROk hl h.txt hc hB;obtain ⟨R',⟨k',h1'⟩,h2'⟩:=ref15_On_l h.rt.toROk hl h.txt hc hB;have e:=h2'.uniq h2;subst e;exact ⟨B,R',b1,b3,⟨B,b1,k,h1⟩,⟨B,b2,k',h1'⟩,h2⟩
end Go.Proofs.YtkbboemafklkkaaGreatDoor.V
namespace Go.Proofs.YtkbboemafklkkaaGreatDoor.V
open Go
set_option linter.unusedVariables false
def zd1 (d:List SNode) (c:Int) (s:List SItem):List (List SItem):=(hds d s).filterMap fun t=>if (zx d t c).2=true then some (zx d t c).1 else none
def zcy (d:List SNode):List Int→List SItem→List (List SItem)
 | [],s=>[s]
 | c::w,s=>(zd1 d c s).flatMap (zcy d w)
theorem zpo (d:List SNode) (c:Int):∀(w:List Int) (s:List SItem),zcy d (w++[c]) s=(zcy d w s).flatMap (zd1 d c)
 | [],s=>by
  show (zd1 d c s).flatMap (zcy d [])=_;have:zcy d []=fun t=>[t]:=by funext t;rfl
  rw [this];simp
 | e::w,s=>by
  show (zd1 d e s).flatMap (zcy d (w++[c]))=((zd1 d e s).flatMap (zcy d w)).flatMap (zd1 d c);rw [List.flatMap_assoc]
  congr 1
  funext t;exact zpo d c w t
theorem sumF_flat (F:List SItem→Nat) (g:List SItem→List (List SItem)) (L:List (List SItem)):zb4 F (L.flatMap g)=zb4 (fun t=>zb4 F (g t)) L:=by
 induction L with
 | nil=>rfl
 | cons t L ih=>
  rw [List.flatMap_cons,zer,ih];simp [zb4]
theorem sumF_step (d:List SNode) (c:Int) (G:List SItem→Nat) (s:List SItem):zb4 G (zd1 d c s)=zb4 (fun t=>if (zx d t c).2=true then G (zx d t c).1 else 0) (hds d s):=by
 unfold zd1
 induction hds d s with
 | nil=>rfl
 | cons t L ih=>
  rw [List.filterMap_cons]
  by_cases h:(zx d t c).2=true
  ·simp only [h,if_true];have:∀x (M:List (List SItem)),zb4 G (x::M)=G x+zb4 G M:=fun x M=>by simp [zb4]
   rw [this,ih];simp [zb4,h]
  ·simp only [h];rw [show zb4 (fun t=>if (zx d t c).2=true then G (zx d t c).1 else 0) (t::L)=zb4 (fun t=>if (zx d t c).2=true then G (zx d t c).1 else 0) L by simp [zb4,h]];exact ih
theorem wyn_ends (d:List SNode):∀(w:List Int) (s:List SItem),wyn d w s=zb4 (fun u=>(hds d u).count []) (zcy d w s)
 | [],s=>by simp [wyn,zcy,zb4]
 | c::w,s=>by
  show zb4 (fun t=>if (zx d t c).2=true then wyn d w (zx d t c).1 else 0) (hds d s)=zb4 _ ((zd1 d c s).flatMap (zcy d w));rw [sumF_flat,← sumF_step d c (fun t=>wyn d w t) s];exact zgb fun t _=>wyn_ends d w t
theorem zo6 {α:Type} (K:List α):(K.map fun _=>(0:Nat)).sum=0:=by
 induction K with
 | nil=>rfl
 | cons a K ih=>rw [List.map_cons,List.sum_cons,ih]
theorem zo5 {g:List SItem→Nat} {t:List SItem}:∀{K:List (List SItem)},K.Nodup→t∈K→(K.map fun k=>(if k=t then 1 else 0)*g k).sum=g t
 | [],_,h=>by cases h
 | k::K,hn,h=>by
  rw [List.nodup_cons] at hn;rw [List.map_cons,List.sum_cons]
  by_cases e:k=t
  ·subst e;have z:(K.map fun k'=>(if k'=k then 1 else 0)*g k').sum=0:=by
    have:∀k'∈K,(if k'=k then 1 else 0)*g k'=0:=fun k' hk=>by
     have hne:k'≠k:=fun e'=>hn.1 (by rw [← e'];exact hk);rw [if_neg hne,Nat.zero_mul]
    rw [List.map_congr_left this,zo6]
   rw [z];simp
  ·rw [if_neg e,Nat.zero_mul,Nat.zero_add];exact zo5 hn.2 ((List.mem_cons.1 h).resolve_left fun h'=>e h'.symm)
theorem sum_by {g:List SItem→Nat} {K:List (List SItem)} (hn:K.Nodup):∀(L:List (List SItem)),(∀t∈L,t∈K)→zb4 g L=(K.map fun k=>L.count k*g k).sum
 | [],_=>by
  have:∀k∈K,([]:List (List SItem)).count k*g k=0:=fun k _=>by simp
  rw [List.map_congr_left this,zo6];rfl
 | t::L,h=>by
  have ih:=sum_by hn (g:=g) L fun u hu=>h u (by simp [hu]);have e1:zb4 g (t::L)=g t+zb4 g L:=by simp [zb4]
  have e2:(K.map fun k=>(t::L).count k*g k).sum=(K.map fun k=>L.count k*g k).sum+(K.map fun k=>(if k=t then 1 else 0)*g k).sum:=by
   clear h ih e1 hn
   induction K with
   | nil=>rfl
   | cons a K ih=>
    simp only [List.map_cons,List.sum_cons];rw [ih,List.count_cons,Nat.add_mul];have:(if (t==a)=true then 1 else 0)=(if a=t then 1 else 0):=by
     by_cases h:a=t
     ·subst h;simp
     ·rw [if_neg (by simpa using fun e=>h e.symm),if_neg h]
    rw [this];omega
  rw [e1,ih,e2,zo5 hn (h t (by simp))];omega
theorem fB_step {d:List SNode} {s:List SItem} {B:List SBranch} (hB:Can (fun t=>(hds d s).count t) B) (c:Int) (u:List SItem):sat (fB d c B u)=sat ((zd1 d c s).count u):=by
 have e1:(zd1 d c s).count u=zb4 (fun t=>if t=u then 1 else 0) (zd1 d c s):=by
  induction zd1 d c s with
  | nil=>rfl
  | cons t L ih=>
   rw [List.count_cons,ih];unfold zb4;rw [List.map_cons,List.sum_cons]
   by_cases h:t=u
   ·simp [h];omega
   ·simp [h]
 rw [e1,sumF_step,sum_by hB.nodup (hds d s) fun t ht=>(hB.keys t).2 (by have:=List.count_pos_iff.2 ht;omega),List.map_map];unfold fB;have key:∀b∈B,sat (if (zx d b.1 c).2=true∧(zx d b.1 c).1=u then b.2.toNat else 0)=sat ((hds d s).count b.1*if (zx d b.1 c).2=true then (if (zx d b.1 c).1=u then 1 else 0) else 0):=fun b hb=>by
  have h1:=(hB.many hb).1
  by_cases h2:(zx d b.1 c).2=true
  ·by_cases h3:(zx d b.1 c).1=u
   ·rw [if_pos ⟨h2,h3⟩,if_pos h2,if_pos h3,Nat.mul_one,h1];unfold sat;omega
   ·rw [if_neg fun e=>h3 e.2,if_pos h2,if_neg h3];rfl
  ·rw [if_neg fun e=>h2 e.1,if_neg h2];rfl
 clear hB e1
 induction B with
 | nil=>rfl
 | cons b B ih=>
  have k1:=key b (by simp);have k2:=ih fun b' hb'=>key b' (by simp [hb']);simp only [List.map_cons,List.sum_cons,Function.comp] at k2 ⊢;unfold sat at *;omega
theorem next_Ends_l {B:List SBranch} {f:List SItem→Nat} (hB:Can f B) (hl:B.length≤10001):∃k,zcs.l1 B (sat (f [])) (zcs.j1 (sat (f []))) k 0:=by
 refine zhe (P:=fun k (_:Unit) v=>zcs.l1 B (sat (f [])) _ k v) B.length (fun i _=>∀b∈B.take i,b.1≠[]) ?_ ?_ () (by simp)
 ·intro i _ hi hn;have hat:at? B (i:Int)=some B[i]:=by rw [zbn];simp [hi]
  by_cases h0:B[i].1=[]
  ·refine .inl fun k=>⟨fun _=>⟨_,hat,fun _=>?_,fun h=>by rw [h0] at h;simp at h⟩,fun h=>absurd (by omega) (df h)⟩;have:=(hB.many (List.getElem_mem hi)).1;rw [h0] at this;exact this.symm
  ·refine .inr ⟨(),fun b hb=>?_,fun k hk=>⟨fun _=>⟨_,hat,fun h=>absurd (by simpa using h) h0,fun _=>⟨zh (by omega) (by omega),hk⟩⟩,fun h=>absurd (by omega) (df h)⟩⟩;rw [List.take_succ_eq_append_getElem hi] at hb;rcases List.mem_append.1 hb with hb | hb
   ·exact hn b hb
   ·rw [List.mem_singleton.1 hb];exact h0
 ·intro _ hn k;refine ⟨fun h=>absurd (dt h) (by omega),fun _=>?_⟩;show sat (f [])=0;rw [List.take_length] at hn;have:f []=0:=by
   rcases Nat.eq_zero_or_pos (f []) with h | h
   ·exact h
   ·obtain ⟨b,hb,e⟩:=List.mem_map.1 ((hB.keys []).2 (by omega));exact absurd e (hn b hb)
  rw [this];rfl
theorem ref15_Ends_l {B:List SBranch} {f:List SItem→Nat} (hB:Can f B) (hl:B.length≤10001):∃k,zeb.l1 B (sat (f [])) (zeb.j1 (sat (f []))) k 0:=by
 refine zhe (P:=fun k (_:Unit) v=>zeb.l1 B (sat (f [])) _ k v) B.length (fun i _=>∀b∈B.take i,b.1≠[]) ?_ ?_ () (by simp)
 ·intro i _ hi hn;have hat:at? B (i:Int)=some B[i]:=by rw [zbn];simp [hi]
  by_cases h0:B[i].1=[]
  ·refine .inl fun k=>⟨fun _=>⟨_,hat,fun _=>⟨_,hat, ?_⟩,fun h=>by rw [h0] at h;simp at h⟩,fun h=>absurd (by omega) (df h)⟩;have:=(hB.many (List.getElem_mem hi)).1;rw [h0] at this;exact this.symm
  ·refine .inr ⟨(),fun b hb=>?_,fun k hk=>⟨fun _=>⟨_,hat,fun h=>absurd (by simpa using h) h0,fun _=>⟨zh (by omega) (by omega),hk⟩⟩,fun h=>absurd (by omega) (df h)⟩⟩;rw [List.take_succ_eq_append_getElem hi] at hb;rcases List.mem_append.1 hb with hb | hb
   ·exact hn b hb
   ·rw [List.mem_singleton.1 hb];exact h0
 ·intro _ hn k;refine ⟨fun h=>absurd (dt h) (by omega),fun _=>?_⟩;show sat (f [])=0;rw [List.take_length] at hn;have:f []=0:=by
   rcases Nat.eq_zero_or_pos (f []) with h | h
   ·exact h
   ·obtain ⟨b,hb,e⟩:=List.mem_map.1 ((hB.keys []).2 (by omega));exact absurd e (hn b hb)
  rw [this];rfl
theorem ends_both {d:List SNode} {s:List SItem} (h:Sm d s):zcs d s (sat ((hds d s).count []))∧zeb d s (sat ((hds d s).count [])):=by
 obtain ⟨B,b1,b2,b3⟩:=zlm h;have hl:=heads_few h b3;exact ⟨⟨B,b1,next_Ends_l b3 hl⟩,⟨B,b2,ref15_Ends_l b3 hl⟩⟩
def sing:List Cl:=(List.range 256).map fun (c:Nat)=>Cl.row ((c:Int) % 256) ((c:Int) % 256)
def clsF (d:List SNode) (t:List SItem):List Cl:=
 match t with
 | []=>[]
 | x::_=>match at? d x.2.1 with
  | none=>[]
  | some n=>if x.1=3 then [Cl.row ((zdv n.2.2.2.2.2.2 x.2.2.1).getD 0) ((zdv n.2.2.2.2.2.2 x.2.2.1).getD 0)] else if n.1=2 then [n.2.2.2.2.2.1] else sing
def zk4 (d:List SNode) (B:List SBranch):List Cl:=B.flatMap fun b=>clsF d b.1
theorem zhv:sing.length=256:=by simp [sing]
theorem clsF_len (d:List SNode) (t:List SItem):(clsF d t).length≤256:=by
 unfold clsF;cases t with
 | nil=>simp
 | cons x t=>
  simp only;cases at? d x.2.1 with
  | none=>simp
  | some n=>
   simp only;split
   ·simp
   ·split
    ·simp
    ·rw [zhv];exact Nat.le_refl _
theorem zks (d:List SNode):∀B:List SBranch,(zk4 d B).length≤256*B.length
 | []=>by simp [zk4]
 | b::B=>by
  have h1:=clsF_len d b.1;have h2:=zks d B;unfold zk4 at *;simp only [List.flatMap_cons,List.length_append,List.length_cons];omega
theorem clsB_snoc (d:List SNode) (B:List SBranch) (b:SBranch):zk4 d (B++[b])=zk4 d B++clsF d b.1:=by simp [zk4]
theorem znm:zbt sing:=by
 refine zhe (P:=fun k (o:List Cl) v=>zbt.l1 (zbt.j1 sing) k o v) 256 (fun i o=>o=sing.take i) ?_ ?_ [] (by simp)
 ·rintro i o hi rfl;have e:sing.take (i+1)=sing.take i++[Cl.row ((i:Int) % 256) ((i:Int) % 256)]:=by
   rw [List.take_succ_eq_append_getElem (by rw [zhv];exact hi)];simp [sing]
  refine .inr ⟨_,rfl,fun k hk=>⟨fun _=>⟨_,zn6,by rw [List.length_take];simp;omega,zh (by omega) (by omega), ?_⟩,fun h=>absurd (by omega) (df h)⟩⟩;rw [e] at hk;exact hk
 ·rintro o rfl k;refine ⟨fun h=>absurd (dt h) (by omega),fun _=>?_⟩;show sing=sing.take 256;rw [List.take_of_length_le (by rw [zhv];exact Nat.le_refl _)]
theorem zov {d:List SNode} {B:List SBranch} (hB:HOk d B):∃k,zbf.l1 d B (zbf.j1 (zk4 d B)) k [] 0:=by
 have hfew:=hB.few;refine zhe (P:=fun k (o:List Cl) v=>zbf.l1 d B (zbf.j1 (zk4 d B)) k o v) B.length (fun i o=>o=zk4 d (B.take i)) ?_ ?_ [] (by simp [zk4])
 ·rintro i o hi rfl;have hat:at? B (i:Int)=some B[i]:=by rw [zbn];simp [hi]
  obtain ⟨b1,b2,b3⟩:=hB.ok _ (List.getElem_mem hi);have hlen:=zks d (B.take i);rw [List.length_take] at hlen;have e:zk4 d (B.take (i+1))=zk4 d (B.take i)++clsF d B[i].1:=by rw [List.take_succ_eq_append_getElem hi,clsB_snoc]
  refine .inr ⟨_,rfl,fun k hk=>⟨fun _=>⟨_,hat,fun h0=>?_,fun h0=>?_⟩,fun h=>absurd (by omega) (df h)⟩⟩
  ·have h1:B[i].1=[]:=by simpa using h0
   rw [e,h1] at hk;simp only [clsF,List.append_nil] at hk;exact ⟨zh (by omega) (by omega),hk⟩
  ·rw [e] at hk;generalize B[i].1=t at *;cases t with
   | nil=>simp at h0
   | cons x rest=>
    obtain ⟨n,hn,hm,hkk⟩:=zi5 b3 b2;simp only [clsF,hn] at hk;refine ⟨x,rfl,n,hn,fun h3=>?_,fun h3=>⟨fun h2=>?_,fun h2=>?_⟩⟩
    ·have h3':=eq_of_beq h3;rw [if_pos h3'] at hk;obtain ⟨_,_,h6,h7⟩:n.1=3∧x.2.2.2=0∧0≤x.2.2.1∧x.2.2.1<(n.2.2.2.2.2.2.length:Int):=by
      rcases hkk with ⟨h,_⟩ | ⟨_,h⟩ | ⟨h,_⟩
      ·omega
      ·exact h
      ·omega
     obtain ⟨b,hb2,_⟩:=zn8 h6 h7;rw [hb2] at hk;exact ⟨b,hb2,b,hb2,_,zn6,by simp;omega,zh (by omega) (by omega),hk⟩
    ·have h3':=ne_of_beq_false h3;rw [if_neg h3',if_pos (eq_of_beq h2)] at hk;exact ⟨by simp;omega,zh (by omega) (by omega),hk⟩
    ·have h3':=ne_of_beq_false h3;rw [if_neg h3',if_neg (ne_of_beq_false h2)] at hk;exact ⟨_,znm,by rw [zhv];omega,zh (by omega) (by omega),hk⟩
 ·rintro o rfl k;refine ⟨fun h=>absurd (dt h) (by omega),fun _=>?_⟩;show zk4 d B=_;rw [List.take_length]
theorem zm9 {d:List SNode} {B:List SBranch} (hB:HOk d B):∃k,zbc.l1 d B (zbc.j1 (zk4 d B)) k [] 0:=by
 have hfew:=hB.few;refine zhe (P:=fun k (o:List Cl) v=>zbc.l1 d B (zbc.j1 (zk4 d B)) k o v) B.length (fun i o=>o=zk4 d (B.take i)) ?_ ?_ [] (by simp [zk4])
 ·rintro i o hi rfl;have hat:at? B (i:Int)=some B[i]:=by rw [zbn];simp [hi]
  obtain ⟨b1,b2,b3⟩:=hB.ok _ (List.getElem_mem hi);have hlen:=zks d (B.take i);rw [List.length_take] at hlen;have e:zk4 d (B.take (i+1))=zk4 d (B.take i)++clsF d B[i].1:=by rw [List.take_succ_eq_append_getElem hi,clsB_snoc]
  refine .inr ⟨_,rfl,fun k hk=>⟨fun _=>⟨_,hat,fun h0=>?_,fun h0=>?_⟩,fun h=>absurd (by omega) (df h)⟩⟩
  ·have h1:B[i].1=[]:=by simpa using h0
   rw [e,h1] at hk;simp only [clsF,List.append_nil] at hk;exact ⟨zh (by omega) (by omega),hk⟩
  ·rw [e] at hk;refine ⟨_,hat, ?_⟩;generalize B[i].1=t at *;cases t with
   | nil=>simp at h0
   | cons x rest=>
    obtain ⟨n,hn,hm,hkk⟩:=zi5 b3 b2;simp only [clsF,hn] at hk;refine ⟨x,rfl,n,hn,fun h3=>?_,fun h3=>⟨fun h2=>?_,fun h2=>?_⟩⟩
    ·have h3':=eq_of_beq h3;rw [if_pos h3'] at hk;obtain ⟨_,_,h6,h7⟩:n.1=3∧x.2.2.2=0∧0≤x.2.2.1∧x.2.2.1<(n.2.2.2.2.2.2.length:Int):=by
      rcases hkk with ⟨h,_⟩ | ⟨_,h⟩ | ⟨h,_⟩
      ·omega
      ·exact h
      ·omega
     obtain ⟨b,hb2,hb3⟩:=zn8 h6 h7;rw [hb2] at hk;exact ⟨b,hb2,b,hb2,_,zij hb3 hb3,by simp;omega,zh (by omega) (by omega),hk⟩
    ·have h3':=ne_of_beq_false h3;simp only [Bool.and_eq_true,beq_iff_eq] at h2;rw [if_neg h3',if_pos h2.2] at hk;exact ⟨by simp;omega,zh (by omega) (by omega),hk⟩
    ·have h3':=ne_of_beq_false h3;have h2':¬ n.1=2:=by
      intro e2;rcases hkk with ⟨h,_⟩ | ⟨h,_⟩ | ⟨h,h',_⟩
      ·simp [h,e2] at h2
      ·exact h3' h
      ·omega
     rw [if_neg h3',if_neg h2'] at hk;refine zhe (P:=fun k' (o:List Cl) v=>zbc.l2 (zbc.j2 (zbc.l1 d B (zbc.j1 (zk4 d B)) k) (i:Int)) k' o v) 256 (fun j o=>o=zk4 d (B.take i)++sing.take j) ?_ ?_ (zk4 d (B.take i)) (by simp)
     ·rintro j o hj rfl;have e:sing.take (j+1)=sing.take j++[Cl.row ((j:Int) % 256) ((j:Int) % 256)]:=by
       rw [List.take_succ_eq_append_getElem (by rw [zhv];exact hj)];simp [sing]
      have hu8:InR .u8 ((j:Int) % 256):=zex.2 ⟨by omega,by omega⟩;refine .inr ⟨_,rfl,fun k' hk'=>⟨fun _=>⟨_,zij hu8 hu8,by rw [List.length_append,List.length_take];simp;omega,zh (by omega) (by omega), ?_⟩,fun h=>absurd (by omega) (df h)⟩⟩;rw [e,← List.append_assoc] at hk';exact hk'
     ·rintro o rfl k';refine ⟨fun h=>absurd (dt h) (by omega),fun _=>⟨zh (by omega) (by omega), ?_⟩⟩;rw [List.take_of_length_le (l:=sing) (by rw [zhv];exact Nat.le_refl _)];exact hk
 ·rintro o rfl k;refine ⟨fun h=>absurd (dt h) (by omega),fun _=>?_⟩;show zk4 d B=_;rw [List.take_length]
theorem classes_both {d:List SNode} {s:List SItem} (h:Sm d s):∃B,Can (fun t=>(hds d s).count t) B∧zbf d s (zk4 d B)∧zbc d s (zk4 d B):=by
 obtain ⟨B,b1,b2,b3⟩:=zlm h;have hB:=h.hok b3;exact ⟨B,b3,⟨B,b1,zov hB⟩,⟨B,b2,zm9 hB⟩⟩
def d5:List SNode:=[(2,0,0,0,0,Cl.row 5 6,([]:Str))]
theorem small_txt {d:List SNode} (h:∀n∈d,n.2.2.2.2.2.2=[]):∀n∈d,n.2.2.2.2.2.2.length≤140737488351232:=fun n hn=>by rw [h n hn];simp
def d55:List SNode:=zjr 5 d5 d5
def d8:List SNode:=wrapD 8 d5
abbrev Txt (d:List SNode):Prop:=∀n∈d,n.2.2.2.2.2.2.length≤140737488351232
theorem byte_u8 {s:Str} {i:Int} {c:Int} (h:zdv s i=some c):0≤c∧c≤255:=by
 unfold zdv at h;obtain ⟨x,_,rfl⟩:=Option.map_eq_some_iff.1 h;have:=x.toNat_lt;omega
theorem read_same {d:List SNode} {t:List SItem} (hf:zd2 d t=true) (hr:rdy d t=true) {a b:Int} (ha:InR .u8 a) (hb:InR .u8 b) (h:∀x∈clsF d t,x.has a.toNat=x.has b.toNat):zx d t a=zx d t b:=by
 have ha':=zex.1 ha;have hb':=zex.1 hb;cases t with
 | nil=>rfl
 | cons x rest=>
  obtain ⟨n,hn,hm,hk⟩:=zi5 hf hr;simp only [clsF,hn] at h;unfold zx;simp only [hn]
  by_cases hl:(zdo rest).2=false
  ·rw [if_pos hl,if_pos hl]
  ·rw [if_neg hl,if_neg hl]
   by_cases h3:x.1=3
   ·rw [if_pos h3] at h;rw [if_pos h3,if_pos h3];obtain ⟨h6,h7⟩:0≤x.2.2.1∧x.2.2.1<(n.2.2.2.2.2.2.length:Int):=by
     rcases hk with ⟨h,_⟩ | ⟨_,_,_,h⟩ | ⟨h,_⟩
     ·omega
     ·exact h
     ·omega
    obtain ⟨c,hc,_⟩:=zn8 h6 h7;have hcr:=byte_u8 hc;have hh:=h _ (List.mem_singleton.2 rfl);rw [hc] at hh ⊢;simp only [Option.getD_some] at hh;rw [zjy (by omega),zjy (by omega)] at hh;have e:(some c=some a)↔(some c=some b):=by
     simp only [Option.some.injEq];have e1:(decide (c≤((a.toNat:Nat):Int))&&decide (((a.toNat:Nat):Int)≤c))=true↔c=a:=by simp only [Bool.and_eq_true,decide_eq_true_eq];omega
     have e2:(decide (c≤((b.toNat:Nat):Int))&&decide (((b.toNat:Nat):Int)≤c))=true↔c=b:=by simp only [Bool.and_eq_true,decide_eq_true_eq];omega
     rw [← e1,← e2,hh]
    by_cases hca:(some c=some a)
    ·rw [if_pos hca,if_pos (e.1 hca)]
    ·rw [if_neg hca,if_neg fun hcb=>hca (e.2 hcb)]
   ·rw [if_neg h3] at h
    by_cases h2:n.1=2
    ·rw [if_pos h2] at h;have h1:x.1=1:=by
      rcases hk with ⟨h,_⟩ | ⟨h,_⟩ | ⟨_,h,_⟩
      ·exact h
      ·exact absurd h h3
      ·omega
     have hh:=h _ (List.mem_singleton.2 rfl);rw [if_neg h3,if_neg (show ¬ x.1=4 by omega),if_neg (show ¬ n.1=8 by omega),if_neg (show ¬ n.1=9 by omega),if_neg h3,if_neg (show ¬ x.1=4 by omega),if_neg (show ¬ n.1=8 by omega),if_neg (show ¬ n.1=9 by omega),hh]
    ·rw [if_neg h2] at h;have hm:Cl.row a a∈sing:=by
      refine List.mem_map.2 ⟨a.toNat,by simp;omega, ?_⟩;have e:((a.toNat:Nat):Int) % 256=a:=by omega
      rw [e]
     have hh:=h _ hm;rw [zjy (by omega),zjy (by omega)] at hh;have e1:(decide (a≤((a.toNat:Nat):Int))&&decide (((a.toNat:Nat):Int)≤a))=true:=by simp only [Bool.and_eq_true,decide_eq_true_eq];omega
     rw [e1] at hh;have hh:=hh.symm;simp only [Bool.and_eq_true,decide_eq_true_eq] at hh;have:a=b:=by omega
     rw [this]
theorem form_low1 {d:List SNode} {x:SItem} (h:ze0 d x=true) (hb:zkx x=false):ze0 d (zk1 x)=true:=by
 unfold zk1;split
 ·rename_i h5
  unfold ze0 at h ⊢;rw [if_pos h5] at h;rw [if_pos (show (x.1,x.2.1,x.2.2.1-1,x.2.2.2).1=5 from h5)];simp only [zkx,h5] at hb;simp at hb;simp only [Bool.and_eq_true,decide_eq_true_eq,beq_iff_eq] at h ⊢;omega
 ·exact h
theorem form_lowF {d:List SNode} {s:List SItem} (h:zd2 d s=true):zd2 d (zdo s).1=true:=by
 unfold zdo;split
 ·rfl
 ·rename_i hb
  have hb:s.any zkx=false:=by simpa using hb
  unfold zd2 at *;rw [List.all_eq_true] at *;intro y hy;obtain ⟨x,hx,rfl⟩:=List.mem_map.1 hy;rw [List.any_eq_false] at hb;exact form_low1 (h x hx) (by simpa using hb x hx)
theorem form_read {d:List SNode} (hd:ROk d) {t:List SItem} (hf:zd2 d t=true) (hr:rdy d t=true) {c:Int} (hc:InR .u8 c):zd2 d (zx d t c).1=true:=by
 have hc':=zex.1 hc;cases t with
 | nil=>rfl
 | cons x rest=>
  obtain ⟨n,hn,hm,hk⟩:=zi5 hf hr;have hlow:=form_lowF (zdn hf).2;have five:∀v:Int,0≤v→v≤65535→ze0 d (5,0,v,0)=true:=fun v h0 h1=>by
   unfold ze0;simp;omega
  unfold zx;simp only [hn];split
  ·rfl
  ·split
   ·rename_i h3
    split
    ·split
     ·rename_i hlt
      refine zfm ?_ hlow;obtain ⟨h4,h6⟩:n.1=3∧0≤x.2.2.1:=by
       rcases hk with ⟨h,_⟩ | ⟨_,h,_,h',_⟩ | ⟨h,_⟩
       ·omega
       ·exact ⟨h,h'⟩
       ·omega
      unfold ze0;simp [hn,h4];omega
     ·exact hlow
    ·rfl
   ·split
    ·rename_i h3 h4
     obtain ⟨h9,h6,h7⟩:n.1=9∧0≤x.2.2.1∧x.2.2.1≤255:=by
      rcases hk with ⟨h,_⟩ | ⟨h,_⟩ | ⟨_,h⟩
      ·omega
      ·omega
      ·exact h
     obtain ⟨p,q⟩:=hd.one _ n hn (by omega);exact zfm (zh4 (zdq hn p q)) (zfm (five _ (by omega) (by omega)) hlow)
    ·split
     ·rename_i h8
      obtain ⟨p,q⟩:=hd.one _ n hn (by omega);exact zfm (zh4 (zdq hn p q)) (zfm (five _ (by omega) (by omega)) hlow)
     ·split
      ·rename_i h9
       refine zfm ?_ hlow;unfold ze0;simp [hn,h9];omega
      ·split
       ·exact hlow
       ·rfl
theorem step_ok {d:List SNode} (hd:ROk d) {s:List SItem} (hf:zd2 d s=true) {c:Int} (hc:InR .u8 c):∀u∈zd1 d c s,zd2 d u=true∧u.length≤s.length+d.length+1:=by
 intro u hu;obtain ⟨t,h1,h2⟩:=List.mem_filterMap.1 hu;obtain ⟨L,⟨k,hk⟩,hp⟩:=hds_lv hd s hf;obtain ⟨h3,h4⟩:=lv_vs hd (n0:=s.length) k s L hk (Vs.start hf (Nat.le_refl _)) t (hp.mem_iff.2 h1);split at h2
 ·cases h2;have:=h3.len;have:=zkf d t c;exact ⟨form_read hd h3.form h4 hc,by omega⟩
 ·cases h2
theorem ends_ok {d:List SNode} (hd:ROk d):∀(w:List Int) (s:List SItem),(∀c∈w,InR .u8 c)→zd2 d s=true→∀u∈zcy d w s,zd2 d u=true∧u.length≤s.length+w.length*(d.length+1)
 | [],s,_,hf,u,hu=>by
  rw [zcy,List.mem_singleton] at hu;subst hu;exact ⟨hf,by simp⟩
 | c::w,s,hw,hf,u,hu=>by
  obtain ⟨t,h1,h2⟩:=List.mem_flatMap.1 hu;obtain ⟨h3,h4⟩:=step_ok hd hf (hw c (by simp)) t h1;obtain ⟨h5,h6⟩:=ends_ok hd w t (fun e he=>hw e (by simp [he])) h3 u h2;refine ⟨h5, ?_⟩;rw [List.length_cons,Nat.succ_mul];omega
theorem hds_mem {d:List SNode} (hd:ROk d) (r:List SItem) (t:List SItem):∀s,t∈hds d (s++r)↔(∃t',t'∈hds d s∧t'≠[]∧t=t'++r)∨([]∈hds d s∧t∈hds d r):=by
 intro s;have h:=zq6 hd (fun u=>if u=t then 1 else 0) r s;have cnt1:∀L:List (List SItem),zb4 (fun u=>if u=t then 1 else 0) L≠0↔t∈L:=fun L=>by
  induction L with
  | nil=>simp [zb4]
  | cons u L ih=>
   have e:zb4 (fun u=>if u=t then 1 else 0) (u::L)=(if u=t then 1 else 0)+zb4 (fun u=>if u=t then 1 else 0) L:=by simp [zb4]
   rw [e,List.mem_cons]
   by_cases hu:u=t
   ·subst hu;simp
   ·rw [if_neg hu,Nat.zero_add,ih];constructor
    ·exact .inr
    ·rintro (e | e)
     ·exact absurd e.symm hu
     ·exact e
 have cnt2:∀(G:List SItem→Nat) (L:List (List SItem)),zb4 G L≠0↔∃u∈L,G u≠0:=fun G L=>by
  induction L with
  | nil=>simp [zb4]
  | cons u L ih=>
   have e:zb4 G (u::L)=G u+zb4 G L:=by simp [zb4]
   rw [e];constructor
   ·intro h0
    by_cases hu:G u=0
    ·obtain ⟨v,h1,h2⟩:=ih.1 (by omega);exact ⟨v,by simp [h1],h2⟩
    ·exact ⟨u,by simp,hu⟩
   ·rintro ⟨v,h1,h2⟩;rcases List.mem_cons.1 h1 with rfl | h1
    ·omega
    ·have:=ih.2 ⟨v,h1,h2⟩;omega
 rw [← cnt1,h,cnt2];constructor
 ·rintro ⟨u,h1,h2⟩
  by_cases hu:u=[]
  ·subst hu;simp only [if_true] at h2;exact .inr ⟨h1,(cnt1 _).1 h2⟩
  ·simp only [if_neg hu] at h2
   by_cases he:u++r=t
   ·exact .inl ⟨u,h1,hu,he.symm⟩
   ·rw [if_neg he] at h2;exact absurd rfl h2
 ·rintro (⟨u,h1,hu,rfl⟩ | ⟨h1,h2⟩)
  ·exact ⟨u,h1,by simp only [if_neg hu];simp⟩
  ·exact ⟨[],h1,by simp only [if_true];exact (cnt1 _).2 h2⟩
theorem zdm {d:List SNode} {c:Int} {s u:List SItem}:u∈zd1 d c s↔∃t∈hds d s,(zx d t c).2=true∧(zx d t c).1=u:=by
 unfold zd1;rw [List.mem_filterMap];constructor
 ·rintro ⟨t,h1,h2⟩;split at h2
  ·rename_i h3;cases h2;exact ⟨t,h1,h3,rfl⟩
  ·cases h2
 ·rintro ⟨t,h1,h2,rfl⟩;exact ⟨t,h1,by rw [if_pos h2]⟩
theorem step_app {d:List SNode} (hd:ROk d) {c:Int} {s r u:List SItem} (h:u∈zd1 d c (s++r)):(∃u',u'∈zd1 d c s∧(zdo r).2=true∧u=u'++(zdo r).1)∨([]∈hds d s∧u∈zd1 d c r):=by
 obtain ⟨t,h1,h2,rfl⟩:=zdm.1 h;rcases (hds_mem hd r t s).1 h1 with ⟨t',k1,k2,rfl⟩ | ⟨k1,k2⟩
 ·rw [znd k2] at h2 ⊢
  by_cases hc:(zx d t' c).2=true∧(zdo r).2=true
  ·rw [if_pos hc];exact .inl ⟨_,zdm.2 ⟨t',k1,hc.1,rfl⟩,hc.2,rfl⟩
  ·rw [if_neg hc] at h2;cases h2
 ·exact .inr ⟨k1,zdm.2 ⟨t,k2,h2,rfl⟩⟩
end Go.Proofs.YtkbboemafklkkaaGreatDoor.V
