/-
  What the claim leans on, part 15.
-/
import Derived.Test.YtifaebmmbpkclaaGreatDoorRWr14
set_option maxRecDepth 100000
set_option maxHeartbeats 1000000
set_option linter.unusedVariables false
set_option linter.unusedSimpArgs false
namespace Go.Proofs.YtifaebmmbpkclaaGreatDoor
open Go.RowKit
theorem j_cut {P : Program} {J : Nat→FMap→World→Prop} {n : Nat} {Q : Exit→Nat→AS→Prop} {σ : AS} {k : Nat} {c d : Code} {α : Type} (S : α→AS) (I : α→Prop) (h : awp P n c (QCut S I (fun e σ=>Q e k σ)) σ) (hk : ∀ x,I x→awpJ P J n d Q k (S x)) : awpJ P J n (.seq c d) Q k σ :=
 j_seq (j_of (a_mono h fun e σ' hq=>by
  cases e with
  | normal=>obtain ⟨x',i1,i2⟩ := hq; exact j_imp i2 (hk x' i1)
  | exit id=>exact hq
  | goto l=>exact hq
  | ret=>exact hq
  | panic c=>exact hq
  | outgrown=>exact hq))
theorem j_cutJ {P : Program} {J : Nat→FMap→World→Prop} {n : Nat} {Q : Exit→Nat→AS→Prop} {σ : AS} {k : Nat} {c d : Code} (S : AS) (k' : Nat) (h : awpJ P J n c (fun e m σ'=>e = .normal∧m = k'∧Imp σ' S) k σ) (hd : awpJ P J n d Q k' S) : awpJ P J n (.seq c d) Q k σ :=
 j_seq (fun w0 F0 F γ a w hJ hs=>wpIn_mono (h w0 F0 F γ a w hJ hs) fun e a' w' ⟨w1,F1,F',γ',m,σ',j1,j2,h1,h2,h3,h4⟩=>by
  subst h2 h3
  obtain ⟨F2,γ2,s2⟩ := h4 _ F' γ' a' w' h1
  exact ⟨w1,F1,F2,γ2,m,S,j1,j2,s2,hd⟩)
inductive SubE (e : List (Nat × DV)) : List (Nat × DV)→Prop
 | nil : SubE e []
 | cons {t : Nat} {d : DV} {r : List (Nat × DV)} (h : look e t = some d) (hi : d.ids = []) (k : SubE e r) : SubE e ((t,d) :: r)
theorem SubE.spec {e r : List (Nat × DV)} (k : SubE e r) : ∀ t d,look r t = some d→look e t = some d∧d.ids = []:=by
 induction k with
 | nil=>intro t d h; cases h
 | cons h hi k ih=>
  intro t d hl
  rw [look_cons] at hl
  split at hl
  ·rename_i e1; subst e1; injection hl with hl; subst hl; exact ⟨h,hi⟩
  ·exact ih t d hl
def scanL (p : List Int) (s : Int × Int × Bool) : Option (Ctl (Int × Int × Bool) (Int × Int × Bool)) :=
 if (decide (s.1 < (List.length p : Int))) = true then
  chk (slOk (List.length p) s.1 (List.length p))<|
  (frame_stands (List.drop (Int.toNat s.1) p)).bind fun r=>
  if r.2 = true then some (.done (s.1,r.1,r.2)) else some (.next (IntKind.wrap .i64 (s.1 + 1),r.1,r.2))
 else some (.done s)
def scanM (p : List Int) : Nat→Int→Option (List frame_Part)
 | 0,_=>none
 | fu + 1,off=>
  if (decide (off < (List.length p : Int))) = true then
   (whileM (E:=Int × Int × Bool) (scanL p) (off,0,false)).bind fun e=>
   if e.2.2 = true then
    chk (slOk (List.length p) (IntKind.wrap .i64 (e.1 + 8)) (IntKind.wrap .i64 (e.1 + e.2.1)))<|
    chk (apOk 1 (List.length ([] : List Int) + List.length (slc p (IntKind.wrap .i64 (e.1 + 8)) (IntKind.wrap .i64 (e.1 + e.2.1)))))<|
    (scanM p fu (IntKind.wrap .i64 (e.1 + e.2.1))).bind fun rest=>
    some ((if (decide (off < e.1)) = true then [⟨off,IntKind.wrap .i64 (e.1 - off),[],false⟩] else [])++⟨e.1,e.2.1,([] : List Int)++slc p (IntKind.wrap .i64 (e.1 + 8)) (IntKind.wrap .i64 (e.1 + e.2.1)),true⟩ :: rest)
   else some (if (decide (off < e.1)) = true then [⟨off,IntKind.wrap .i64 (e.1 - off),[],false⟩] else [])
  else some []
theorem wanted_guard {ops : Array Oper} {o : Oper} {g gt : Nat} {n : Nat} {σ : AS} (hg : o.guard = some (g,true)) (hgo : (ops[g]?).bind (·.dst) = some gt) (hb : look σ.env gt = some (.bool true)) :
  ∀ w0 F0 F γ a w,Sat (bare w0 F0 n) F γ σ a w→Region.wanted o (yielded ops a.tmps) = true:=by
 intro w0 F0 F γ a w hs
 have hsl:=(hs.env gt _ hb).2
 have hlt:=(hs.env gt _ hb).1
 simp only [Rs] at hsl
 have hy : yielded ops a.tmps g = some true:=by
  unfold yielded
  rw [hgo]
  have hsz : gt < a.tmps.size:=by rw [hs.size]; exact hlt
  simp only [Option.bind_some]
  rw [Array.getElem?_eq_getElem hsz]
  have : a.tmps[gt] = .bool true:=by simpa [Array.getD,hsz] using hsl
  rw [this]
 simp [Region.wanted,hg,hy]
abbrev yv (l : Nat) : DV:=.val (.func (.yield l) #[] #[])
theorem part_none {F : FMap} {γ : Gam} {a b : Int} {v : Value} (h : Rs F γ (.ifb true (.agg [.int .i64 a,.int .i64 b,.nils,.bool false])) v) : Rs F Gam.no (frame_Part.dv ⟨a,b,[],false⟩) v:=by
 simp only [Rs] at h
 have h:=h.1 trivial
 have k : Rs F γ (.agg [.int .i64 a,.int .i64 b,.nils,.bool false]) v:=by simp only [Rs]; exact h
 exact Rs_ids _ _ (by intro i hi; cases hi) (DLe.agg (.cons (DLe.refl _) (.cons (DLe.refl _) (.cons (DLe.nils 1) (.cons (DLe.refl _) .nil)))) F γ v k)
theorem data_of {F : FMap} {γ : Gam} {d : DV} {v : Value} (h : Rs F γ d v) (hi : d.ids = []) : Rs F Gam.no d v:=Rs_ids _ _ (by rw [hi]; intro i hi; cases hi) h
theorem scan_J {J : Nat→FMap→World→Prop} (JO : JOk J) {l : Nat} {p : List Int} {parts : List frame_Part} (Y : Ylds Tryz.prog l J (parts.map frame_Part.dv)) {fu : Nat} (hM : scanM p fu 0 = some parts) {c : Code} (hc : Tryz.f67.body = some c) :
  awpJ Tryz.prog J 60 c (fun e m _=>(e = .normal∨e = .ret)∧m = (parts.map frame_Part.dv).length) 0 ⟨params 0 [.sl 1 (List.map (DV.int .u8) p),yv l],[],[]⟩ := by
 injection hc with hc
 subst hc
 refine j_seq (j_of (a_region (.cons (o_assign rfl)<|.nil _) (by kernel_rfl) (by kernel_rfl) ?_))
 refine j_block ?_
 refine j_loop (fun x : Nat × Int × List frame_Part=>⟨[(0,.sl 1 (List.map (DV.int .u8) p)),(1,yv l),(4,.int .i64 x.2.1)],[],[]⟩)
  (fun k x=>scanM p x.1 x.2.1 = some x.2.2∧parts.drop k = x.2.2∧k + x.2.2.length = parts.length) (fun x=>x.1) (fu,0,parts) (Imp.of (fun i=>i) (.cons rfl (DLe.refl _) (.cons rfl (DLe.refl _) (.cons rfl (DLe.refl _) .nil))) .nil rfl rfl rfl) ⟨hM,rfl,by simp⟩ ?_
 rintro k ⟨fu,off,rest⟩ ⟨hM,hdrop,hlen⟩
 dsimp only at hM hdrop hlen ⊢
 cases fu with
 | zero=>cases hM
 | succ fu=>
 unfold scanM at hM
 refine j_seq ?_
 refine j_seq (j_of (a_region (.cons (o_move rfl)<|.cons (o_move rfl)<|.cons (t_len rfl)<|.cons (o_int rfl rfl rfl)<|.nil _) (by kernel_rfl) (by kernel_rfl) ?_))
 refine j_cond _ rfl (fun hb=>?_) (fun hb=>?_)
 ·replace hM:=(of_if hM).1 hb
  obtain ⟨e,hL,hM⟩ := of_bind hM
  refine j_of (a_skip ?_)
  refine j_block ?_
  refine j_seq (j_of (a_region (.cons (o_move rfl)<|.cons (o_assign rfl)<|.cons (o_assign rfl)<|.cons (o_assign rfl)<|.nil _) (by kernel_rfl) (by kernel_rfl) ?_))
  refine j_cut (α:=Unit) (fun _=>⟨[(0,.sl 1 (List.map (DV.int .u8) p)),(1,yv l),(4,.int .i64 off),(5,.int .i64 e.1),(6,.int .i64 e.2.1),(7,.bool e.2.2)],[],[]⟩) (fun _=>True) ?_ ?_
  ·refine a_block ?_
   refine a_while (fun s=>⟨[(0,.sl 1 (List.map (DV.int .u8) p)),(1,yv l),(4,.int .i64 off),(5,.int .i64 s.1),(6,.int .i64 s.2.1),(7,.bool s.2.2)],[],[]⟩) _ hL (Imp.of (fun i=>i) (.cons rfl (DLe.refl _) (.cons rfl (DLe.refl _) (.cons rfl (DLe.refl _) (.cons rfl (DLe.refl _) (.cons rfl (DLe.refl _) (.cons rfl (DLe.refl _) .nil)))))) .nil rfl rfl rfl) ?_
   rintro ⟨nx,ln,gd⟩ tb hM hE
   unfold scanL at hM
   dsimp only at hM ⊢
   refine a_seq ?_
   refine a_seq ?_
   refine a_region (.cons (o_move rfl)<|.cons (o_move rfl)<|.cons (t_len rfl)<|.cons (o_int rfl rfl rfl)<|.nil _) (by kernel_rfl) (by kernel_rfl) ?_
   refine a_cond _ rfl (fun hb2=>?_) (fun hb2=>?_)
   ·replace hM:=(of_if hM).1 hb2
    obtain ⟨hs,hM⟩ := of_chk hM
    obtain ⟨r,hr,hM⟩ := of_bind hM
    refine a_skip ?_
    refine a_block ?_
    refine a_seq ?_
    refine a_seq ?_
    refine a_region (.cons (o_move rfl)<|.cons (o_move rfl)<|.cons (t_slice_l hs rfl rfl)<|.cons (o_call (frame_stands_c hr) rfl (DLeL.refl _) rfl)<|.cons (o_move rfl)<|.cons (o_extract rfl rfl)<|.cons (o_extract rfl rfl)<|.cons (o_assign rfl)<|.cons (o_assign rfl)<|.nil _) (by kernel_rfl) (by kernel_rfl) ?_
    refine a_seq ?_
    refine a_region (.cons (o_move rfl)<|.nil _) (by kernel_rfl) (by kernel_rfl) ?_
    refine a_cond _ rfl (fun hb3=>?_) (fun hb3=>?_)
    ·replace hM:=(of_if hM).1 hb3
     obtain rfl:=Option.some.inj hM
     obtain rfl:=hE _ rfl
     refine a_exit ?_
     exact ⟨(),trivial,Imp.of (fun i=>i) (.cons rfl (DLe.refl _) (.cons rfl (DLe.refl _) (.cons rfl (DLe.refl _) (.cons rfl (DLe.refl _) (.cons rfl (DLe.refl _) (.cons rfl (DLe.refl _) .nil)))))) .nil rfl rfl rfl⟩
    ·replace hM:=(of_if hM).2 hb3
     obtain rfl:=Option.some.inj hM
     refine a_skip ?_
     refine a_region (.cons (o_move rfl)<|.cons (o_int rfl rfl rfl)<|.cons (o_assign rfl)<|.nil _) (by kernel_rfl) (by kernel_rfl) ?_
     exact ⟨(_,_,_),rfl,Imp.of (fun i=>i) (.cons rfl (DLe.refl _) (.cons rfl (DLe.refl _) (.cons rfl (DLe.refl _) (.cons rfl (DLe.refl _) (.cons rfl (DLe.refl _) (.cons rfl (DLe.refl _) .nil)))))) .nil rfl rfl rfl⟩
   ·replace hM:=(of_if hM).2 hb2
    obtain rfl:=Option.some.inj hM
    obtain rfl:=hE _ rfl
    refine a_exit ?_
    exact ⟨(),trivial,Imp.of (fun i=>i) (.cons rfl (DLe.refl _) (.cons rfl (DLe.refl _) (.cons rfl (DLe.refl _) (.cons rfl (DLe.refl _) (.cons rfl (DLe.refl _) (.cons rfl (DLe.refl _) .nil)))))) .nil rfl rfl rfl⟩
  ·rintro _ -
   obtain ⟨nx,ln,gd⟩ := e
   dsimp only at hM ⊢
   -- the first part
   obtain ⟨pre,hpre⟩ : ∃ pre : List frame_Part,(if (decide (off < nx)) = true then [⟨off,IntKind.wrap .i64 (nx - off),[],false⟩] else []) = pre := ⟨_,rfl⟩
   rw [hpre] at hM
   obtain ⟨rest',hrest⟩ : ∃ rest',rest = pre++rest' := by
    split at hM
    ·obtain ⟨_,hM⟩ := of_chk hM
     obtain ⟨_,hM⟩ := of_chk hM
     obtain ⟨r2,_,hM⟩ := of_bind hM
     exact ⟨_,(Option.some.inj hM).symm⟩
    ·exact ⟨[],by rw [List.append_nil]; exact (Option.some.inj hM).symm⟩
   have hdrop1 : parts.drop (k + pre.length) = rest' := by
    rw [← List.drop_drop,hdrop,hrest,List.drop_left]
   have hlen1 : (k + pre.length) + rest'.length = parts.length:=by
    rw [hrest,List.length_append] at hlen; omega
   refine j_seq ?_
   refine j_cutJ ⟨[(40,.bool false),(0,.sl 1 (List.map (DV.int .u8) p)),(1,yv l),(4,.int .i64 off),(5,.int .i64 nx),(6,.int .i64 ln),(7,.bool gd)],[],[]⟩ (k + pre.length) ?_ ?_
   ·by_cases hb4 : decide (off < nx) = true
    ·rw [if_pos hb4] at hpre
     have hk : (parts.map frame_Part.dv)[k]? = some (frame_Part.dv ⟨off,IntKind.wrap .i64 (nx - off),[],false⟩):=by
      have : parts[k]? = some ⟨off,IntKind.wrap .i64 (nx - off),[],false⟩ := by
       have h0:=congrArg (fun l=>l[0]?) hdrop
       rw [hrest,← hpre] at h0
       simpa using h0
      rw [List.getElem?_map,this]; rfl
     refine j_region (k' := k + 1) (.cons ((o_move rfl).toJ rfl)<|.cons ((o_move rfl).toJ rfl)<|.cons ((OpG.cast (E' := ⟨[(30,.bool true)],[],[]⟩) (o_int rfl rfl rfl) (by rw [hb4])).toJ rfl)<|.cons ((o_move rfl).toJ rfl)<|
      .cons ((o_guardOn .bT rfl rfl rfl (.keep .nil) (o_move rfl)).toJ rfl)<|.cons ((o_guardOn .bT rfl rfl rfl (.keep .nil) (o_move rfl)).toJ rfl)<|.cons ((o_guardOn .bT rfl rfl rfl (.keep .nil) (o_move rfl)).toJ rfl)<|.cons ((o_guardOn .bT rfl rfl rfl (.keep .nil) (o_move rfl)).toJ rfl)<|
      .cons ((o_guardOn .bT rfl rfl rfl (.strip rfl rfl (.strip rfl rfl .nil)) (o_int rfl rfl rfl)).toJ rfl)<|.cons ((o_guardOn .bT rfl rfl rfl (.strip rfl rfl (.strip rfl rfl .nil)) (o_build rfl rfl rfl)).toJ rfl)<|
      .cons (o_yield (r:=.ifb true (.bool true)) rfl rfl (wanted_guard rfl rfl rfl) rfl (fun F γ v h=>by simp only [Rs] at h; exact h.1 trivial) rfl (fun F γ v h=>part_none h) JO Y hk
       [(31,.bool true),(0,.sl 1 (List.map (DV.int .u8) p)),(1,yv l),(4,.int .i64 off),(5,.int .i64 nx),(6,.int .i64 ln),(7,.bool gd)] (SubE.spec (.cons rfl rfl (.cons rfl rfl (.cons rfl rfl (.cons rfl rfl (.cons rfl rfl (.cons rfl rfl (.cons rfl rfl .nil)))))))) (fun F γ=>by simp only [Rs]; exact ⟨fun _=>trivial,fun h=>by cases h⟩))<|
      .cons ((o_guardOn .bT rfl rfl rfl (.strip rfl rfl .nil) (o_not rfl)).toJ rfl)<|.cons ((o_and rfl rfl).toJ rfl)<|.nil _ _) (by kernel_rfl) ?_
     refine ⟨rfl,by rw [← hpre]; rfl,?_⟩
     exact (Imp.of (fun i=>i) (.cons rfl (DLe.refl _) (.cons rfl (DLe.refl _) (.cons rfl (DLe.refl _) (.cons rfl (DLe.refl _) (.cons rfl (DLe.refl _) (.cons rfl (DLe.refl _) (.cons rfl (DLe.refl _) .nil))))))) .nil rfl rfl rfl)
    ·rw [if_neg hb4] at hpre
     have hb5 : decide (off < nx) = false:=Bool.eq_false_iff.2 hb4
     refine j_of (a_region (.cons (o_move rfl)<|.cons (o_move rfl)<|.cons (OpG.cast (E' := ⟨[(30,.bool false)],[],[]⟩) (o_int rfl rfl rfl) (by rw [hb5]))<|.cons (o_move rfl)<|
      .cons (o_guardOff .nils .bT rfl rfl rfl)<|.cons (o_guardOff .nils .bT rfl rfl rfl)<|.cons (o_guardOff .nils .bT rfl rfl rfl)<|.cons (o_guardOff .nils .bT rfl rfl rfl)<|.cons (o_guardOff .nils .bT rfl rfl rfl)<|.cons (o_guardOff .nils .bT rfl rfl rfl)<|.cons (o_guardOff .nils .bT rfl rfl rfl)<|
      .cons (o_guardOff (.bool false) .bT rfl rfl rfl)<|.cons (o_and rfl rfl)<|.nil _) (by kernel_rfl) (by kernel_rfl) ?_)
     refine ⟨rfl,by rw [← hpre]; rfl,?_⟩
     exact (Imp.of (fun i=>i) (.cons rfl (DLe.refl _) (.cons rfl (DLe.refl _) (.cons rfl (DLe.refl _) (.cons rfl (DLe.refl _) (.cons rfl (DLe.refl _) (.cons rfl (DLe.refl _) (.cons rfl (DLe.refl _) .nil))))))) .nil rfl rfl rfl)
   ·refine j_cond _ rfl (fun c=>by cases c) (fun _=>?_)
    refine j_of (a_skip ?_)
    refine j_seq ?_
    refine j_seq (j_of (a_region (.cons (o_move rfl)<|.cons (o_not rfl)<|.nil _) (by kernel_rfl) (by kernel_rfl) ?_))
    refine j_cond _ rfl (fun hg=>?_) (fun hg=>?_)
    ·have hg' : gd = false:=by cases gd <;> simp_all
     subst hg'
     refine j_of (a_ret ⟨.inr rfl,?_⟩)
     have : pre = rest:=Option.some.inj hM
     have h0 : rest' = []:=by
      have:=congrArg List.length (hrest.symm.trans this.symm)
      simpa using this
     rw [h0] at hlen1
     simpa using hlen1
    ·have hg' : gd = true:=by cases gd <;> simp_all
     subst hg'
     replace hM:=(of_if hM).1 rfl
     obtain ⟨hs1,hM⟩ := of_chk hM
     obtain ⟨hs2,hM⟩ := of_chk hM
     obtain ⟨r2,hr2,hM⟩ := of_bind hM
     have hr' : rest' = ⟨nx,ln,([] : List Int)++slc p (IntKind.wrap .i64 (nx + 8)) (IntKind.wrap .i64 (nx + ln)),true⟩ :: r2:=by
      have:=Option.some.inj hM
      rw [hrest] at this
      exact (List.append_cancel_left this).symm
     refine j_of (a_skip ?_)
     refine j_seq (j_of (a_region (.cons (o_move rfl)<|.cons (o_move rfl)<|.cons (o_int rfl rfl rfl)<|.cons (o_assign rfl)<|.nil _) (by kernel_rfl) (by kernel_rfl) ?_))
     refine j_seq (j_of (a_region (.cons (t_build (DV.int .u8) ([] : List Int) rfl rfl rfl rfl rfl rfl rfl)<|.cons (o_move rfl)<|.cons (o_move rfl)<|.cons (o_int rfl rfl rfl)<|.cons (o_move rfl)<|.cons (t_slice hs1 rfl rfl rfl)<|.cons (o_frz (t_append (slc p (IntKind.wrap .i64 (nx + 8)) (IntKind.wrap .i64 (nx + ln))) hs2 rfl rfl rfl Src.sl))<|.cons (o_assign rfl)<|.nil _) (by kernel_rfl) (by kernel_rfl) ?_))
     refine j_seq ?_
     have hk : (parts.map frame_Part.dv)[k + pre.length]? = some (frame_Part.dv ⟨nx,ln,([] : List Int)++slc p (IntKind.wrap .i64 (nx + 8)) (IntKind.wrap .i64 (nx + ln)),true⟩):=by
      have : parts[k + pre.length]? = some ⟨nx,ln,([] : List Int)++slc p (IntKind.wrap .i64 (nx + 8)) (IntKind.wrap .i64 (nx + ln)),true⟩ := by
       have h0:=congrArg (fun l=>l[0]?) hdrop1
       rw [hr'] at h0
       simpa using h0
      rw [List.getElem?_map,this]; rfl
     refine j_region (k' := k + pre.length + 1) (.cons ((o_move rfl).toJ rfl)<|.cons ((o_move rfl).toJ rfl)<|.cons ((o_move rfl).toJ rfl)<|.cons ((o_move rfl).toJ rfl)<|.cons ((o_build rfl rfl rfl).toJ rfl)<|
      .cons (o_yield (r:=.bool true) rfl rfl (fun w0 F0 F γ a w _=>rfl) rfl (fun F γ v h=>by simp only [Rs] at h; exact h) rfl (fun F γ v h=>data_of h rfl) JO Y hk
       [(0,.sl 1 (List.map (DV.int .u8) p)),(1,yv l),(4,.int .i64 (IntKind.wrap .i64 (nx + ln)))] (SubE.spec (.cons rfl rfl (.cons rfl rfl (.cons rfl rfl .nil)))) (fun F γ=>by simp only [Rs]))<|
      .cons ((o_not rfl).toJ rfl)<|.nil _ _) (by kernel_rfl) ?_
     refine j_cond _ rfl (fun c=>by cases c) (fun _=>?_)
     refine j_of (a_skip ?_)
     refine ⟨(fu,IntKind.wrap .i64 (nx + ln),r2),⟨hr2,?_,?_⟩,Nat.lt_succ_self _,Imp.of (fun i=>i) (.cons rfl (DLe.refl _) (.cons rfl (DLe.refl _) (.cons rfl (DLe.refl _) .nil))) .nil rfl rfl rfl⟩
     ·rw [← List.drop_drop,hdrop1,hr']; rfl
     ·rw [hr'] at hlen1; simp only [List.length_cons] at hlen1; dsimp only; omega
 ·replace hM:=(of_if hM).2 hb
  obtain rfl:=Option.some.inj hM
  refine j_of (a_exit ?_)
  refine ⟨.inl rfl,?_⟩
  simpa using hlen
theorem scan1_iter {p : List Int} {parts : List frame_Part} {fu : Nat} (hM : scanM p fu 0 = some parts) : Iter Tryz.prog 66 [.eptr [.sl 1 (List.map (DV.int .u8) p)]] (parts.map frame_Part.dv):=by
 intro l J F w vs JO Y hJ hv
 have hv' : RsT F Gam.no [yv l,.eptr [.sl 1 (List.map (DV.int .u8) p)]] (.func (.yield l) #[] #[] :: vs):=by
  simp only [RsT]; exact ⟨_,vs,rfl,by simp only [Rs],by simpa only [RsT] using hv⟩
 have e : (#[Value.func (.yield l) #[] #[]]++vs.toArray) = (.func (.yield l) #[] #[] :: vs).toArray:=by simp
 rw [e]
 refine (callsJ (k' := (parts.map frame_Part.dv).length) JO Tryz.func66 rfl Tryz.ntmps66 rfl (by simp) ?_ hJ hv').mono ?_
 ·refine j_region (.cons ((o_load_es rfl rfl).toJ rfl)<|.cons ((o_move rfl).toJ rfl)<|.cons (o_callJ (args:=[.sl 1 (List.map (DV.int .u8) p),yv l]) rfl rfl rfl rfl (DLeL.refl _) rfl JO (fun F w vs hJ hv=>?_) [] (SubE.spec .nil))<|.nil _ _) (by kernel_rfl) ⟨.inl rfl,rfl⟩
  exact callsJ JO Tryz.func67 rfl Tryz.ntmps67 rfl (by simp) (scan_J JO Y hM rfl) hJ hv
 ·rintro e w' ⟨F',rfl,h1,h2⟩
  exact ⟨_,F',rfl,h1,h2⟩
theorem Imp.frzClo {σ : AS} {id T t : Nat} {f : FuncId} {ds : List DV} (hh : hget σ.heap id = some (.blk T ds)) (hi : idsL ds = []) (hx : look σ.env t = some (.clo f [.ref id 0])) : Imp σ ⟨[(t,.clo f [.eptr ds])],[],σ.used⟩ := by
 intro C F γ a w hs
 obtain ⟨g,k1,b,cs,rfl,k3,k4⟩ := hs.ws.ent id _ hh
 have ho:=hs.ws.own id _ _ b hh k1 rfl
 have W:=(hs.ws.congr (h' := []) (fun i e h=>by simp [hget,look] at h) (fun _ h=>h)).data k3 ho.1 ho.2 (fun i e g h=>by simp [hget,look] at h)
 refine ⟨F.up b cs,γ,fun t' d hl=>?_,W,hs.size,hs.defers⟩
 simp only at hl
 rw [look_cons] at hl
 split at hl
 ·rename_i e1; subst e1; injection hl with hl; subst hl
  obtain ⟨q1,q2⟩ := hs.env t _ hx
  refine ⟨q1,?_⟩
  simp only [Rs,RsT] at q2 ⊢
  obtain ⟨cs',e1,v,rest,e2,⟨b',e3,e4⟩,e5⟩ := q2
  rw [k1] at e3
  injection e3 with e3; injection e3 with e3; injection e3 with e3; injection e3 with e3 _ _; subst e3
  refine ⟨cs',e1,v,rest,e2,⟨b,0,cs,cs.toList,[],by simpa using e4,by simp [FMap.up],by simp,?_⟩,e5⟩
  have : ∀ (ds : List DV) (vs : List Value),idsL ds = []→RsL F γ ds vs→RsL (F.up b cs) Gam.no ds vs:=fun ds vs h0 h1=>RsL_ids ds vs (by rw [h0]; intro i hi; cases hi) (RsL.mono (FMap.up_le cs ho.1) (GLe.refl _) ds vs h1)
  exact this ds _ hi k4
 ·cases hl
theorem scan_c {p : List Int} (h : apOk 1 (List.length ([] : List Int) + List.length p)) : PCall Tryz.prog 41 [.sl 1 (List.map (DV.int .u8) p)] (.clo 66 [.eptr [.sl 1 (List.map (DV.int .u8) (([] : List Int)++p))]]):=by
 refine PCall.body Tryz.func41 Tryz.ntmps41 rfl rfl rfl rfl ?_
 refine a_seq ?_
 refine a_region (.cons (o_assign rfl)<|.nil _) (by kernel_rfl) (by kernel_rfl) ?_
 refine a_seq ?_
 refine a_region (.cons (t_build (DV.int .u8) ([] : List Int) rfl rfl rfl rfl rfl rfl rfl)<|.cons (o_move rfl)<|.cons (o_frz (t_append p h rfl rfl rfl Src.sl))<|.cons (o_alloc rfl)<|.cons (o_store_s rfl rfl rfl rfl rfl)<|.nil _) (by kernel_rfl) (by kernel_rfl) ?_
 refine a_seq ?_
 refine a_region (.cons (o_makeFunc rfl)<|.cons (o_assign rfl)<|.nil _) (by kernel_rfl) (by kernel_rfl) ?_
 refine a_imp (Imp.frzClo (id:=3) (t:=2) rfl rfl rfl) ?_
 exact a_ret (a_post (.r1 (.tmp rfl)) (DLe.refl _) PostOk.nil.spec)
def readStep (s : List RRec × Int) (x : frame_Part) : Option (List RRec × Int) :=
 if x.gGood = true then
  (record_Read x.gBody).bind fun r=>
  if (r.2 == 0) = true then chk (apOk 248 (List.length s.1 + List.length [r.1])) (some (s.1++[r.1],s.2)) else some (s.1,IntKind.wrap .i64 (s.2 + x.gLen))
 else some (s.1,IntKind.wrap .i64 (s.2 + x.gLen))
def foldO {α β : Type} (f : β→α→Option β) : β→List α→Option β
 | s,[]=>some s
 | s,x :: xs=>(f s x).bind fun s'=>foldO f s' xs
theorem foldO_at {α β : Type} {f : β→α→Option β} : ∀ {xs : List α} {s r : β},foldO f s xs = some r→∃ g : Nat→β,g 0 = s∧(∀ k x,xs[k]? = some x→f (g k) x = some (g (k + 1)))∧g xs.length = r
 | [],s,r,h=>⟨fun _=>s,rfl,fun k x hx=>by simp at hx,Option.some.inj h⟩
 | x :: xs,s,r,h=>by
  obtain ⟨s',h1,h2⟩ := of_bind h
  obtain ⟨g,g0,g1,g2⟩ := foldO_at h2
  refine ⟨fun k=>match k with | 0=>s | k + 1=>g k,rfl,fun k y hy=>?_,g2⟩
  cases k with
  | zero=>simp at hy; subst hy; simp only [g0]; exact h1
  | succ k=>exact g1 k y (by simpa using hy)
def recorder_Read (p : List Int) : Option (List RRec × Int) :=
 chk (apOk 1 (List.length ([] : List Int) + List.length p))<|
 (scanM (([] : List Int)++p) ((([] : List Int)++p).length + 1) 0).bind fun parts=>foldO readStep ([],0) parts
theorem recorder_Read_c {x0 : List Int} {r : List RRec × Int} (hM : recorder_Read x0 = some r) : PCall Tryz.prog 17 [.sl 1 (List.map (DV.int .u8) x0)] (.tup [.sl 29 (List.map RRec.dv r.1),.int .i64 r.2]):=by
 unfold recorder_Read at hM
 obtain ⟨h1,hM⟩ := of_chk hM
 obtain ⟨parts,hP,hM⟩ := of_bind hM
 obtain ⟨g,g0,g1,g2⟩ := foldO_at hM
 refine PCall.ofD Tryz.func17 Tryz.ntmps17 rfl rfl rfl rfl ?_
 refine d_seqL (a_region (.cons (o_alloc rfl)<|.cons (o_alloc rfl)<|.nil _) (by kernel_rfl) (by kernel_rfl) ?_)
 refine d_seqR ?_
 refine d_seqL (a_region (.cons (o_move rfl)<|.cons (o_call (scan_c h1) rfl (DLeL.refl _) rfl)<|.nil _) (by kernel_rfl) (by kernel_rfl) ?_)
 refine d_block ?_
 refine d_range (scan1_iter hP) [(2,.ref 100001 0),(3,.ref 100002 0),(8,.clo 66 [.eptr [.sl 1 (List.map (DV.int .u8) (([] : List Int)++x0))]])]
  (fun k=>[(100001,some (.blk 25 [.row 7])),(100002,some (.blk 3 [.int .i64 (g k).2])),(7,some (.row 51 29 (List.map RRec.dv (g k).1)))]) [100001,100002,7] ?_ rfl rfl ?_ (by decide) (by decide) (by decide) ?_ ?_
 ·rw [g0]
  exact (Imp.nilC (id:=2) (rid:=7) (j:=0) 51 29 rfl rfl rfl rfl).trans (Imp.of (fun i=>bif Nat.beq i 100001 then 2 else bif Nat.beq i 100002 then 3 else i) (.cons rfl (DLe.refl _) (.cons rfl (DLe.refl _) (.cons rfl (DLe.refl _) .nil))) (.cons rfl (.refl _) (.cons rfl (.refl _) (.cons rfl (.refl _) .nil))) rfl rfl rfl)
 ·intro t d hl i hi
  rw [look_cons] at hl
  split at hl
  ·injection hl with hl; subst hl; simp [DV.ids] at hi; omega
  ·rw [look_cons] at hl
   split at hl
   ·injection hl with hl; subst hl; simp [DV.ids] at hi; omega
   ·rw [look_cons] at hl
    split at hl
    ·injection hl with hl; subst hl; simp [DV.ids,idsL] at hi
    ·cases hl
 ·intro k d R R' hk
  rw [List.getElem?_map] at hk
  obtain ⟨x,hx,rfl⟩ := Option.map_eq_some_iff.1 hk
  have hs:=g1 k x hx
  generalize g (k + 1) = s' at hs ⊢
  generalize g k = s at hs ⊢
  obtain ⟨l,lost⟩ := s
  unfold readStep at hs
  dsimp only at hs ⊢
  refine a_region (.cons (o_alloc rfl)<|.cons (o_store rfl rfl rfl rfl rfl rfl rfl)<|.nil _) (by kernel_rfl) (by kernel_rfl) ?_
  refine ⟨rfl,?_⟩
  refine a_block ?_
  refine a_seq ?_
  refine a_seq ?_
  refine a_region (.cons (o_fieldAddr rfl)<|.cons (o_load_s rfl rfl rfl)<|.nil _) (by kernel_rfl) (by kernel_rfl) ?_
  refine a_cond _ rfl (fun hb=>?_) (fun hb=>?_)
  ·replace hs:=(of_if hs).1 hb
   obtain ⟨y,hy,hs⟩ := of_bind hs
   refine a_seq ?_
   refine a_region (.cons (o_fieldAddr rfl)<|.cons (o_load_s rfl rfl rfl)<|.cons (o_call (record_Read_c hy) rfl (DLeL.refl _) rfl)<|.cons (o_move rfl)<|.cons (o_extract rfl rfl)<|.cons (o_extract rfl rfl)<|.cons (o_alloc rfl)<|.cons (o_store rfl rfl rfl rfl rfl rfl rfl)<|.cons (o_assign rfl)<|.nil _) (by kernel_rfl) (by kernel_rfl) ?_
   refine a_seq ?_
   refine a_region (.cons (o_move rfl)<|.cons (o_int rfl rfl rfl)<|.nil _) (by kernel_rfl) (by kernel_rfl) ?_
   refine a_cond _ rfl (fun hb2=>?_) (fun hb2=>?_)
   ·replace hs:=(of_if hs).1 hb2
    obtain ⟨h3,hs⟩ := of_chk hs
    obtain rfl:=Option.some.inj hs
    refine a_seq ?_
    refine a_region (.cons (o_load_s rfl rfl rfl)<|.cons (o_load_r rfl rfl rfl rfl)<|.cons (t_build RRec.dv ([y.1] : List RRec) rfl rfl rfl rfl rfl rfl rfl)<|.cons (t_append [y.1] h3 rfl rfl rfl (Src.row rfl))<|.cons (o_store_s rfl rfl rfl rfl rfl)<|.nil _) (by kernel_rfl) (by kernel_rfl) ?_
    refine a_exit ?_
    refine ⟨rfl,?_⟩
    exact Imp.of (fun i=>bif Nat.beq i 7 then 23 else i) .nil (.cons rfl (.refl _) (.cons rfl (.refl _) (.cons rfl (.refl _) (.cons rfl (.refl _) (.cons rfl (.refl _) .nil))))) rfl rfl rfl
   ·replace hs:=(of_if hs).2 hb2
    obtain rfl:=Option.some.inj hs
    refine a_skip ?_
    refine a_region (.cons (o_load_s rfl rfl rfl)<|.cons (o_fieldAddr rfl)<|.cons (o_load_s rfl rfl rfl)<|.cons (o_int rfl rfl rfl)<|.cons (o_store_s rfl rfl rfl rfl rfl)<|.nil _) (by kernel_rfl) (by kernel_rfl) ?_
    refine ⟨rfl,?_⟩
    exact Imp.of (fun i=>i) .nil (.cons rfl (.refl _) (.cons rfl (.refl _) (.cons rfl (.refl _) (.cons rfl (.refl _) (.cons rfl (.refl _) .nil))))) rfl rfl rfl
  ·replace hs:=(of_if hs).2 hb
   obtain rfl:=Option.some.inj hs
   refine a_skip ?_
   refine a_region (.cons (o_load_s rfl rfl rfl)<|.cons (o_fieldAddr rfl)<|.cons (o_load_s rfl rfl rfl)<|.cons (o_int rfl rfl rfl)<|.cons (o_store_s rfl rfl rfl rfl rfl)<|.nil _) (by kernel_rfl) (by kernel_rfl) ?_
   refine ⟨rfl,?_⟩
   exact Imp.of (fun i=>i) .nil (.cons rfl (.refl _) (.cons rfl (.refl _) (.cons rfl (.refl _) (.cons rfl (.refl _) (.cons rfl (.refl _) .nil))))) rfl rfl rfl
 ·rw [List.length_map,g2]
  refine a_seq ?_
  refine a_draw mixed (.cons (o_load_s rfl rfl rfl)<|.cons (o_load_s rfl rfl rfl)<|.cons (o_store_s rfl rfl rfl rfl rfl)<|.cons (o_store_s rfl rfl rfl rfl rfl)<|.nil _) (by kernel_rfl) (by kernel_rfl) (by kernel_rfl) ?_
  refine a_imp (Imp.freeze (id:=7) rfl) ?_
  refine a_ret ⟨_,.r2 (.cell rfl rfl (.sc CSc.h rfl)) (.cell rfl rfl (.sc CSc.h rfl)),DLe.refl _,rfl⟩
set_option maxHeartbeats 4000000
def array_2_int.cs (x : Nat→Int) : List DV:=[.int .i64 (x 0),.int .i64 (x 1)]
def VClk_Text_K1 (a1 : List ByteArray) : Option ByteArray :=
 (strings_Join a1 (ByteArray.mk #[44])).bind fun v3=>
 chk ((ByteArray.mk #[91]).size + v3.size≤9223372036854775807)<|
 chk (((ByteArray.mk #[91])++v3).size + (ByteArray.mk #[93]).size≤9223372036854775807)<|
 some (((ByteArray.mk #[91])++v3)++(ByteArray.mk #[93]))
def VClk_Text_L2 (x0 : VClk) (k8 : Nat) (a9 : List ByteArray) : Option (List ByteArray) :=
 chk (inA 16 (k8 : Int))<|
 (strconv_FormatUint (x0.gat (Int.toNat (k8 : Int))) 10).bind fun v15=>
 chk (apOk 16 (List.length a9 + List.length [v15]))<|
 some (a9++[v15])
def VClk_Text (x0 : VClk) : Option ByteArray :=
 (VClk_length x0).bind fun v7=>
 (foldM' 9223372036854775807 v7 (fun k8 s=>VClk_Text_L2 x0 k8 s) ([] : List ByteArray)).bind fun s=>VClk_Text_K1 s
theorem VClk_Text_c {x0 : VClk} {r : ByteArray} (hM : VClk_Text x0 = some r) : PCall Tryz.prog 16 [.agg (VClk.cs x0)] (.str r):=by
 unfold VClk_Text at hM
 refine PCall.body Tryz.func16 Tryz.ntmps16 rfl rfl rfl rfl ?_
 refine a_seq (ar (.cons (o_box rfl rfl)<|.cons (o_assign rfl)<|.nil _) ?_)
 refine a_seq (ar (.cons (o_assign rfl)<|.nil _) ?_)
 refine a_cut (α:=(List ByteArray)) (fun s=>⟨[(3,.sl 1 (List.map DV.str s))],[],[]⟩) (fun s=>VClk_Text_K1 s = some r) ?_ ?_
 ·refine a_seq ?_
  obtain ⟨v7,h6,hM⟩ := of_bind hM
  refine ar (.cons (o_load_r rfl rfl rfl rfl)<|.cons (o_call (VClk_length_c h6) rfl (DLeL.refl _) rfl)<|.cons (o_move rfl)<|.nil _) ?_
  obtain ⟨a9,hL10,hK10⟩ := of_bind hM
  refine a_block ?_
  refine a_fold (fun k8 (s : (List ByteArray))=>⟨[(1,.ref 1 0),(3,.row 10001),(6,.int .i64 v7),(7,.int .i64 (k8 : Int))],[(1,some (.blk 44 (VClk.cs x0))),(10001,some (.row 9 1 (List.map DV.str s)))],[1,10001]⟩) _ hL10 ((Imp.nilRow (t:=3) (id:=10002) 9 1 rfl rfl).trans (Imp.sh (fun i=>bif Nat.beq i 10001 then 10002 else i) rfl rfl rfl rfl rfl rfl)) ?_ ?_
  ·rintro k8 a9 t11 hk8 hx8 hM
   replace hM : VClk_Text_L2 x0 k8 a9 = some t11:=hM
   unfold VClk_Text_L2 at hM
   refine a_seq (ar (.cons (o_int rfl rfl rfl)<|.nil _) ?_)
   refine a_seq ?_
   refine a_cond _ rfl (fun _=>?_) (fun c=>absurd hk8 (of_decide_eq_false c))
   refine a_skip (a_seq (a_block (a_seq (ar (.cons (o_move rfl)<|.cons (o_assign rfl)<|.nil _) ?_))))
   obtain ⟨h13,hM⟩ := of_chk hM
   obtain ⟨v15,h14,hM⟩ := of_bind hM
   obtain ⟨h16,hM⟩ := of_chk hM
   refine ar (.cons (o_move rfl)<|.cons (o_move rfl)<|.cons (o_fieldAddr rfl)<|.cons (t_index_d h13 rfl rfl)<|.cons (o_load_s rfl rfl (arr_get1 (DV.int .u64) x0.gat h13 rfl))<|.cons (o_call (strconv_FormatUint_c h14) rfl (DLeL.refl _) rfl)<|.cons (t_build DV.str ([v15] : List ByteArray) rfl rfl rfl rfl rfl rfl rfl)<|.cons (t_append [v15] h16 rfl rfl rfl (Src.row rfl))<|.cons (o_assign rfl)<|.nil _) ?_
   refine ar (.cons (o_add rfl rfl (inR_i64 hk8 hx8))<|.cons (o_move rfl)<|.nil _) ?_
   obtain rfl:=Option.some.inj hM
   exact (Imp.of (fun i=>bif Nat.beq i 10001 then 17 else i) (.cons rfl (DLe.refl _) (.cons rfl (DLe.refl _) (.cons rfl (DLe.refl _) (.cons rfl (DLe.succ _ _) .nil)))) (.cons rfl (.refl _) (.cons rfl (.refl _) .nil)) rfl rfl rfl)
  ·rintro k8 hk8 hx8
   refine a_seq (ar (.cons (o_int rfl rfl rfl)<|.nil _) ?_)
   refine a_seq ?_
   refine a_cond _ rfl (fun c=>absurd (of_decide_eq_true c) (Int.not_lt.2 hk8)) (fun _=>?_)
   refine a_exit ?_
   exact ⟨a9,hK10,((Imp.freeze (id:=10001) rfl).trans (Imp.sh (fun i=>i) rfl rfl rfl rfl rfl rfl))⟩
 ·rintro a1 hM
  replace hM : VClk_Text_K1 a1 = some r:=hM
  unfold VClk_Text_K1 at hM
  refine a_seq ?_
  obtain ⟨v3,h2,hM⟩ := of_bind hM
  obtain ⟨h4,hM⟩ := of_chk hM
  obtain ⟨h5,hM⟩ := of_chk hM
  refine ar (.cons (o_move rfl)<|.cons (o_call (strings_Join_c h2) rfl (DLeL.refl _) rfl)<|.cons (o_cat h4 rfl rfl)<|.cons (o_cat h5 rfl rfl)<|.cons (o_assign rfl)<|.nil _) ?_
  obtain rfl:=Option.some.inj hM
  exact a_ret (a_post (.r1 (.tmp rfl)) (DLe.refl _) PostOk.nil.spec)
def rootcauselaw28_awake : Option Bool :=
 (recorder_Clocks [(AEv.mk 0 0 4 0 0 0 0 0 []),(AEv.mk 0 0 8 1 0 0 0 0 []),(AEv.mk 1 1 5 0 0 0 0 0 [])] 2).bind fun v2=>
 (gb (!((v2.2 != 0) || ((List.length v2.1 : Int) != 3))) (VClk.mk (arr 0 [])) (idx v2.1 1)).bind fun v4=>
 (gb (!((v2.2 != 0) || ((List.length v2.1 : Int) != 3))) (ByteArray.empty) (VClk_Text v4)).bind fun v6=>
 (gb (!(((v2.2 != 0) || ((List.length v2.1 : Int) != 3)) || (!(v6.toList == (ByteArray.mk #[91,50,93]).toList)))) (VClk.mk (arr 0 [])) (idx v2.1 2)).bind fun v8=>
 (gb (!(((v2.2 != 0) || ((List.length v2.1 : Int) != 3)) || (!(v6.toList == (ByteArray.mk #[91,50,93]).toList)))) (ByteArray.empty) (VClk_Text v8)).bind fun v10=>
 if ((((v2.2 != 0) || ((List.length v2.1 : Int) != 3)) || (!(v6.toList == (ByteArray.mk #[91,50,93]).toList))) || (!(v10.toList == (ByteArray.mk #[91,50,44,49,93]).toList))) = true then
  some false
 else
  (recorder_Write [(AEv.mk 0 0 4 0 0 0 0 0 []),(AEv.mk 0 0 8 1 0 0 0 0 []),(AEv.mk 1 1 5 0 0 0 0 0 [])] 2 0 (recorder_Config.mk 0 1)).bind fun v13=>
  (recorder_Read v13.1).bind fun v15=>
  (gb (((v13.2 == 0) && (v15.2 == 0)) && ((List.length v15.1 : Int) == 2)) (RRec.mk 0 0 (VClk.mk (arr 0 [])) 0 (AEv.mk 0 0 0 0 0 0 0 0 []) 0) (idx v15.1 0)).bind fun v17=>
  (gb ((((v13.2 == 0) && (v15.2 == 0)) && ((List.length v15.1 : Int) == 2)) && (v17.gWhat == 2)) (RRec.mk 0 0 (VClk.mk (arr 0 [])) 0 (AEv.mk 0 0 0 0 0 0 0 0 []) 0) (idx v15.1 0)).bind fun v19=>
  (gb (((((v13.2 == 0) && (v15.2 == 0)) && ((List.length v15.1 : Int) == 2)) && (v17.gWhat == 2)) && (v19.gCount == 2)) (RRec.mk 0 0 (VClk.mk (arr 0 [])) 0 (AEv.mk 0 0 0 0 0 0 0 0 []) 0) (idx v15.1 1)).bind fun v21=>
  (gb ((((((v13.2 == 0) && (v15.2 == 0)) && ((List.length v15.1 : Int) == 2)) && (v17.gWhat == 2)) && (v19.gCount == 2)) && (v21.gWhat == 3)) (RRec.mk 0 0 (VClk.mk (arr 0 [])) 0 (AEv.mk 0 0 0 0 0 0 0 0 []) 0) (idx v15.1 1)).bind fun v23=>
  some (((((((v13.2 == 0) && (v15.2 == 0)) && ((List.length v15.1 : Int) == 2)) && (v17.gWhat == 2)) && (v19.gCount == 2)) && (v21.gWhat == 3)) && (v23.gSeq == 2))
theorem rootcauselaw28_awake_c {r : Bool} (hM : rootcauselaw28_awake = some r) : PCall Tryz.prog 5 [] (.bool r):=by
 unfold rootcauselaw28_awake at hM
 refine PCall.body Tryz.func5 Tryz.ntmps5 rfl rfl rfl rfl ?_
 refine a_seq (ar (.cons (o_assign rfl)<|.nil _) ?_)
 refine a_seq (ar (.cons (o_build rfl rfl rfl)<|.cons (o_build rfl rfl rfl)<|.cons (o_build rfl rfl rfl)<|.cons (t_buildW AEv.dv ([(AEv.mk 0 0 4 0 0 0 0 0 []),(AEv.mk 0 0 8 1 0 0 0 0 []),(AEv.mk 1 1 5 0 0 0 0 0 [])] : List AEv) rfl rfl rfl rfl rfl rfl (.cons (DLe.agg (.cons (DLe.refl _) (.cons (DLe.refl _) (.cons (DLe.refl _) (.cons (DLe.refl _) (.cons (DLe.refl _) (.cons (DLe.refl _) (.cons (DLe.refl _) (.cons (DLe.refl _) (.cons (DLe.nils _) .nil)))))))))) (.cons (DLe.agg (.cons (DLe.refl _) (.cons (DLe.refl _) (.cons (DLe.refl _) (.cons (DLe.refl _) (.cons (DLe.refl _) (.cons (DLe.refl _) (.cons (DLe.refl _) (.cons (DLe.refl _) (.cons (DLe.nils _) .nil)))))))))) (.cons (DLe.agg (.cons (DLe.refl _) (.cons (DLe.refl _) (.cons (DLe.refl _) (.cons (DLe.refl _) (.cons (DLe.refl _) (.cons (DLe.refl _) (.cons (DLe.refl _) (.cons (DLe.refl _) (.cons (DLe.nils _) .nil)))))))))) .nil))))<|.cons (o_assign rfl)<|.nil _) ?_)
 refine a_seq (a_imp (Imp.freeze (id:=10) rfl) ?_)
 obtain ⟨v2,h1,hM⟩ := of_bind hM
 refine ar (.cons (o_move rfl)<|.cons (o_call (recorder_Clocks_c h1) rfl (DLeL.refl _) rfl)<|.cons (o_move rfl)<|.cons (o_extract rfl rfl)<|.cons (o_extract rfl rfl)<|.cons (o_assign rfl)<|.cons (o_assign rfl)<|.nil _) ?_
 refine a_seq (a_seq ?_)
 obtain ⟨v4,h3,hM⟩ := of_bind hM
 obtain ⟨v6,h5,hM⟩ := of_bind hM
 obtain ⟨v8,h7,hM⟩ := of_bind hM
 obtain ⟨v10,h9,hM⟩ := of_bind hM
 refine ar (.cons (o_move rfl)<|.cons (o_int rfl rfl rfl)<|.cons (o_move rfl)<|.cons (o_guardG .bF rfl rfl (fun hb=>(.keep .nil)) (fun hb=>o_move rfl))<|.cons (o_guardG .bF rfl rfl (fun hb=>(.strip rfl hb .nil)) (fun hb=>t_len rfl))<|.cons (o_guardG .bF rfl rfl (fun hb=>(.strip rfl hb .nil)) (fun hb=>o_int rfl rfl rfl))<|.cons (o_or rfl rfl)<|.cons (o_move rfl)<|.cons (o_guardG .bF rfl rfl (fun hb=>(.keep .nil)) (fun hb=>o_move rfl))<|.cons (o_guardG .bF rfl rfl (fun hb=>(.strip rfl hb .nil)) (fun hb=>t_index (of_gb h3 hb) rfl rfl rfl))<|.cons (o_guardG .bF rfl rfl (fun hb=>(.strip rfl hb .nil)) (fun hb=>o_load_er rfl rfl rfl))<|.cons (o_guardG .bF rfl rfl (fun hb=>(.strip rfl hb .nil)) (fun hb=>o_call (VClk_Text_c (of_gb h5 hb)) rfl (DLeL.refl _) rfl))<|.cons (o_guardG .bF rfl rfl (fun hb=>(.strip rfl hb .nil)) (fun hb=>o_strne rfl rfl))<|.cons (o_or rfl rfl)<|.cons (o_move rfl)<|.cons (o_guardG .bF rfl rfl (fun hb=>(.keep .nil)) (fun hb=>o_move rfl))<|.cons (o_guardG .bF rfl rfl (fun hb=>(.strip rfl hb .nil)) (fun hb=>t_index (of_gb h7 hb) rfl rfl rfl))<|.cons (o_guardG .bF rfl rfl (fun hb=>(.strip rfl hb .nil)) (fun hb=>o_load_er rfl rfl rfl))<|.cons (o_guardG .bF rfl rfl (fun hb=>(.strip rfl hb .nil)) (fun hb=>o_call (VClk_Text_c (of_gb h9 hb)) rfl (DLeL.refl _) rfl))<|.cons (o_guardG .bF rfl rfl (fun hb=>(.strip rfl hb .nil)) (fun hb=>o_strne rfl rfl))<|.cons (o_or rfl rfl)<|.nil _) ?_
 refine a_cond _ rfl (fun h11=>?_) (fun h11=>?_)
 ·replace hM:=(of_if hM).1 h11
  refine a_seq (ar (.cons (o_assign rfl)<|.nil _) ?_)
  obtain rfl:=Option.some.inj hM
  exact a_ret (a_post (.r1 (.tmp rfl)) (DLe.refl _) PostOk.nil.spec)
 ·replace hM:=(of_if hM).2 h11
  refine a_skip (a_seq ?_)
  obtain ⟨v13,h12,hM⟩ := of_bind hM
  refine ar (.cons (o_move rfl)<|.cons (o_build rfl rfl rfl)<|.cons (o_call (recorder_Write_c h12) rfl (DLeL.refl _) rfl)<|.cons (o_move rfl)<|.cons (o_extract rfl rfl)<|.cons (o_extract rfl rfl)<|.cons (o_assign rfl)<|.cons (o_assign rfl)<|.nil _) ?_
  refine a_seq ?_
  obtain ⟨v15,h14,hM⟩ := of_bind hM
  refine ar (.cons (o_move rfl)<|.cons (o_call (recorder_Read_c h14) rfl (DLeL.refl _) rfl)<|.cons (o_move rfl)<|.cons (o_extract rfl rfl)<|.cons (o_extract rfl rfl)<|.cons (o_assign rfl)<|.cons (o_assign rfl)<|.nil _) ?_
  refine a_seq ?_
  obtain ⟨v17,h16,hM⟩ := of_bind hM
  obtain ⟨v19,h18,hM⟩ := of_bind hM
  obtain ⟨v21,h20,hM⟩ := of_bind hM
  obtain ⟨v23,h22,hM⟩ := of_bind hM
  refine ar (.cons (o_move rfl)<|.cons (o_int rfl rfl rfl)<|.cons (o_move rfl)<|.cons (o_guardG .bT rfl rfl (fun hb=>(.keep .nil)) (fun hb=>o_move rfl))<|.cons (o_guardG .bT rfl rfl (fun hb=>(.strip rfl hb .nil)) (fun hb=>o_int rfl rfl rfl))<|.cons (o_and rfl rfl)<|.cons (o_move rfl)<|.cons (o_guardG .bT rfl rfl (fun hb=>(.keep .nil)) (fun hb=>o_move rfl))<|.cons (o_guardG .bT rfl rfl (fun hb=>(.strip rfl hb .nil)) (fun hb=>t_len rfl))<|.cons (o_guardG .bT rfl rfl (fun hb=>(.strip rfl hb .nil)) (fun hb=>o_int rfl rfl rfl))<|.cons (o_and rfl rfl)<|.cons (o_move rfl)<|.cons (o_guardG .bT rfl rfl (fun hb=>(.keep .nil)) (fun hb=>o_move rfl))<|.cons (o_guardG .bT rfl rfl (fun hb=>(.strip rfl hb .nil)) (fun hb=>t_index (of_gb h16 hb) rfl rfl rfl))<|.cons (o_guardG .bT rfl rfl (fun hb=>(.strip rfl hb .nil)) (fun hb=>o_fieldAddr_e rfl rfl))<|.cons (o_guardG .bT rfl rfl (fun hb=>(.strip rfl hb .nil)) (fun hb=>o_load_es rfl rfl))<|.cons (o_guardG .bT rfl rfl (fun hb=>(.strip rfl hb .nil)) (fun hb=>o_int rfl rfl rfl))<|.cons (o_and rfl rfl)<|.cons (o_move rfl)<|.cons (o_guardG .bT rfl rfl (fun hb=>(.keep .nil)) (fun hb=>o_move rfl))<|.cons (o_guardG .bT rfl rfl (fun hb=>(.strip rfl hb .nil)) (fun hb=>t_index (of_gb h18 hb) rfl rfl rfl))<|.cons (o_guardG .bT rfl rfl (fun hb=>(.strip rfl hb .nil)) (fun hb=>o_fieldAddr_e rfl rfl))<|.cons (o_guardG .bT rfl rfl (fun hb=>(.strip rfl hb .nil)) (fun hb=>o_load_es rfl rfl))<|.cons (o_guardG .bT rfl rfl (fun hb=>(.strip rfl hb .nil)) (fun hb=>o_int rfl rfl rfl))<|.cons (o_and rfl rfl)<|.cons (o_move rfl)<|.cons (o_guardG .bT rfl rfl (fun hb=>(.keep .nil)) (fun hb=>o_move rfl))<|.cons (o_guardG .bT rfl rfl (fun hb=>(.strip rfl hb .nil)) (fun hb=>t_index (of_gb h20 hb) rfl rfl rfl))<|.cons (o_guardG .bT rfl rfl (fun hb=>(.strip rfl hb .nil)) (fun hb=>o_fieldAddr_e rfl rfl))<|.cons (o_guardG .bT rfl rfl (fun hb=>(.strip rfl hb .nil)) (fun hb=>o_load_es rfl rfl))<|.cons (o_guardG .bT rfl rfl (fun hb=>(.strip rfl hb .nil)) (fun hb=>o_int rfl rfl rfl))<|.cons (o_and rfl rfl)<|.cons (o_move rfl)<|.cons (o_guardG .bT rfl rfl (fun hb=>(.keep .nil)) (fun hb=>o_move rfl))<|.cons (o_guardG .bT rfl rfl (fun hb=>(.strip rfl hb .nil)) (fun hb=>t_index (of_gb h22 hb) rfl rfl rfl))<|.cons (o_guardG .bT rfl rfl (fun hb=>(.strip rfl hb .nil)) (fun hb=>o_fieldAddr_e rfl rfl))<|.cons (o_guardG .bT rfl rfl (fun hb=>(.strip rfl hb .nil)) (fun hb=>o_load_es rfl rfl))<|.cons (o_guardG .bT rfl rfl (fun hb=>(.strip rfl hb .nil)) (fun hb=>o_int rfl rfl rfl))<|.cons (o_and rfl rfl)<|.cons (o_assign rfl)<|.nil _) ?_
  obtain rfl:=Option.some.inj hM
  exact a_ret (a_post (.r1 (.tmp rfl)) (DLe.refl _) PostOk.nil.spec)
def rootcauseref24_in (x0 : Int) (x1 : Int) (x2 : Int) : Option Bool :=
 some ((decide (x1≤x0)) && (decide (x0≤x2)))
theorem rootcauseref24_in_c {x0 : Int} {x1 : Int} {x2 : Int} {r : Bool} (hM : rootcauseref24_in x0 x1 x2 = some r) : PCall Tryz.prog 47 [.int .i64 x0,.int .i64 x1,.int .i64 x2] (.bool r):=by
 unfold rootcauseref24_in at hM
 refine PCall.body Tryz.func47 Tryz.ntmps47 rfl rfl rfl rfl ?_
 refine a_seq (ar (.cons (o_assign rfl)<|.nil _) ?_)
 refine a_seq (ar (.cons (o_move rfl)<|.cons (o_move rfl)<|.cons (o_int rfl rfl rfl)<|.cons (o_move rfl)<|.cons (o_guardG .bT rfl rfl (fun hb=>(.keep .nil)) (fun hb=>o_move rfl))<|.cons (o_guardG .bT rfl rfl (fun hb=>(.keep .nil)) (fun hb=>o_move rfl))<|.cons (o_guardG .bT rfl rfl (fun hb=>(.strip rfl hb (.strip rfl hb .nil))) (fun hb=>o_int rfl rfl rfl))<|.cons (o_and rfl rfl)<|.cons (o_assign rfl)<|.nil _) ?_)
 obtain rfl:=Option.some.inj hM
 exact a_ret (a_post (.r1 (.tmp rfl)) (DLe.refl _) PostOk.nil.spec)
def rootcauseref17_SameEvent_K1 : Option Bool :=
 some true
def rootcauseref17_SameEvent_L2 (x0 : AEv) (x1 : AEv) (k2 : Nat) : Option (Ctl Unit Bool) :=
 (idx x0.gArgs (k2 : Int)).bind fun v7=>
 (idx x1.gArgs (k2 : Int)).bind fun v9=>
 if (v7 != v9) = true then
  some (.done false)
 else
  some (.next ())
def rootcauseref17_SameEvent (x0 : AEv) (x1 : AEv) : Option Bool :=
 if (((((((((x0.gTick != x1.gTick) || (x0.gComponent != x1.gComponent)) || (x0.gKind != x1.gKind)) || (x0.gPeer != x1.gPeer)) || (x0.gN != x1.gN)) || (x0.gCopy != x1.gCopy)) || (x0.gHandler != x1.gHandler)) || (x0.gD != x1.gD)) || ((List.length x0.gArgs : Int) != (List.length x1.gArgs : Int))) = true then
  some false
 else
  (forM' (E:=Bool) 9223372036854775807 (List.length x0.gArgs : Int) (fun k2 s=>rootcauseref17_SameEvent_L2 x0 x1 k2) ()).bind fun
   | .next s=>rootcauseref17_SameEvent_K1
   | .done r=>some r
theorem rootcauseref17_SameEvent_c {x0 : AEv} {x1 : AEv} {r : Bool} (hM : rootcauseref17_SameEvent x0 x1 = some r) : PCall Tryz.prog 50 [.agg (AEv.cs x0),.agg (AEv.cs x1)] (.bool r):=by
 unfold rootcauseref17_SameEvent at hM
 refine PCall.body Tryz.func50 Tryz.ntmps50 rfl rfl rfl rfl ?_
 refine a_seq (ar (.cons (o_box rfl rfl)<|.cons (o_box rfl rfl)<|.cons (o_assign rfl)<|.nil _) ?_)
 refine a_seq (a_seq (ar (.cons (o_fieldAddr rfl)<|.cons (o_load_s rfl rfl rfl)<|.cons (o_fieldAddr rfl)<|.cons (o_load_s rfl rfl rfl)<|.cons (o_int rfl rfl rfl)<|.cons (o_move rfl)<|.cons (o_guardG .bF rfl rfl (fun hb=>(.keep .nil)) (fun hb=>o_fieldAddr rfl))<|.cons (o_guardG .bF rfl rfl (fun hb=>(.strip rfl hb .nil)) (fun hb=>o_load_s rfl rfl rfl))<|.cons (o_guardG .bF rfl rfl (fun hb=>(.keep .nil)) (fun hb=>o_fieldAddr rfl))<|.cons (o_guardG .bF rfl rfl (fun hb=>(.strip rfl hb .nil)) (fun hb=>o_load_s rfl rfl rfl))<|.cons (o_guardG .bF rfl rfl (fun hb=>(.strip rfl hb (.strip rfl hb .nil))) (fun hb=>o_int rfl rfl rfl))<|.cons (o_or rfl rfl)<|.cons (o_move rfl)<|.cons (o_guardG .bF rfl rfl (fun hb=>(.keep .nil)) (fun hb=>o_fieldAddr rfl))<|.cons (o_guardG .bF rfl rfl (fun hb=>(.strip rfl hb .nil)) (fun hb=>o_load_s rfl rfl rfl))<|.cons (o_guardG .bF rfl rfl (fun hb=>(.keep .nil)) (fun hb=>o_fieldAddr rfl))<|.cons (o_guardG .bF rfl rfl (fun hb=>(.strip rfl hb .nil)) (fun hb=>o_load_s rfl rfl rfl))<|.cons (o_guardG .bF rfl rfl (fun hb=>(.strip rfl hb (.strip rfl hb .nil))) (fun hb=>o_int rfl rfl rfl))<|.cons (o_or rfl rfl)<|.cons (o_move rfl)<|.cons (o_guardG .bF rfl rfl (fun hb=>(.keep .nil)) (fun hb=>o_fieldAddr rfl))<|.cons (o_guardG .bF rfl rfl (fun hb=>(.strip rfl hb .nil)) (fun hb=>o_load_s rfl rfl rfl))<|.cons (o_guardG .bF rfl rfl (fun hb=>(.keep .nil)) (fun hb=>o_fieldAddr rfl))<|.cons (o_guardG .bF rfl rfl (fun hb=>(.strip rfl hb .nil)) (fun hb=>o_load_s rfl rfl rfl))<|.cons (o_guardG .bF rfl rfl (fun hb=>(.strip rfl hb (.strip rfl hb .nil))) (fun hb=>o_int rfl rfl rfl))<|.cons (o_or rfl rfl)<|.cons (o_move rfl)<|.cons (o_guardG .bF rfl rfl (fun hb=>(.keep .nil)) (fun hb=>o_fieldAddr rfl))<|.cons (o_guardG .bF rfl rfl (fun hb=>(.strip rfl hb .nil)) (fun hb=>o_load_s rfl rfl rfl))<|.cons (o_guardG .bF rfl rfl (fun hb=>(.keep .nil)) (fun hb=>o_fieldAddr rfl))<|.cons (o_guardG .bF rfl rfl (fun hb=>(.strip rfl hb .nil)) (fun hb=>o_load_s rfl rfl rfl))<|.cons (o_guardG .bF rfl rfl (fun hb=>(.strip rfl hb (.strip rfl hb .nil))) (fun hb=>o_int rfl rfl rfl))<|.cons (o_or rfl rfl)<|.cons (o_move rfl)<|.cons (o_guardG .bF rfl rfl (fun hb=>(.keep .nil)) (fun hb=>o_fieldAddr rfl))<|.cons (o_guardG .bF rfl rfl (fun hb=>(.strip rfl hb .nil)) (fun hb=>o_load_s rfl rfl rfl))<|.cons (o_guardG .bF rfl rfl (fun hb=>(.keep .nil)) (fun hb=>o_fieldAddr rfl))<|.cons (o_guardG .bF rfl rfl (fun hb=>(.strip rfl hb .nil)) (fun hb=>o_load_s rfl rfl rfl))<|.cons (o_guardG .bF rfl rfl (fun hb=>(.strip rfl hb (.strip rfl hb .nil))) (fun hb=>o_int rfl rfl rfl))<|.cons (o_or rfl rfl)<|.cons (o_move rfl)<|.cons (o_guardG .bF rfl rfl (fun hb=>(.keep .nil)) (fun hb=>o_fieldAddr rfl))<|.cons (o_guardG .bF rfl rfl (fun hb=>(.strip rfl hb .nil)) (fun hb=>o_load_s rfl rfl rfl))<|.cons (o_guardG .bF rfl rfl (fun hb=>(.keep .nil)) (fun hb=>o_fieldAddr rfl))<|.cons (o_guardG .bF rfl rfl (fun hb=>(.strip rfl hb .nil)) (fun hb=>o_load_s rfl rfl rfl))<|.cons (o_guardG .bF rfl rfl (fun hb=>(.strip rfl hb (.strip rfl hb .nil))) (fun hb=>o_int rfl rfl rfl))<|.cons (o_or rfl rfl)<|.cons (o_move rfl)<|.cons (o_guardG .bF rfl rfl (fun hb=>(.keep .nil)) (fun hb=>o_fieldAddr rfl))<|.cons (o_guardG .bF rfl rfl (fun hb=>(.strip rfl hb .nil)) (fun hb=>o_load_s rfl rfl rfl))<|.cons (o_guardG .bF rfl rfl (fun hb=>(.keep .nil)) (fun hb=>o_fieldAddr rfl))<|.cons (o_guardG .bF rfl rfl (fun hb=>(.strip rfl hb .nil)) (fun hb=>o_load_s rfl rfl rfl))<|.cons (o_guardG .bF rfl rfl (fun hb=>(.strip rfl hb (.strip rfl hb .nil))) (fun hb=>o_int rfl rfl rfl))<|.cons (o_or rfl rfl)<|.cons (o_move rfl)<|.cons (o_guardG .bF rfl rfl (fun hb=>(.keep .nil)) (fun hb=>o_fieldAddr rfl))<|.cons (o_guardG .bF rfl rfl (fun hb=>(.strip rfl hb .nil)) (fun hb=>o_load_s rfl rfl rfl))<|.cons (o_guardG .bF rfl rfl (fun hb=>(.strip rfl hb .nil)) (fun hb=>t_len rfl))<|.cons (o_guardG .bF rfl rfl (fun hb=>(.keep .nil)) (fun hb=>o_fieldAddr rfl))<|.cons (o_guardG .bF rfl rfl (fun hb=>(.strip rfl hb .nil)) (fun hb=>o_load_s rfl rfl rfl))<|.cons (o_guardG .bF rfl rfl (fun hb=>(.strip rfl hb .nil)) (fun hb=>t_len rfl))<|.cons (o_guardG .bF rfl rfl (fun hb=>(.strip rfl hb (.strip rfl hb .nil))) (fun hb=>o_int rfl rfl rfl))<|.cons (o_or rfl rfl)<|.nil _) ?_))
 refine a_cond _ rfl (fun h1=>?_) (fun h1=>?_)
 ·replace hM:=(of_if hM).1 h1
  refine a_seq (ar (.cons (o_assign rfl)<|.nil _) ?_)
  obtain rfl:=Option.some.inj hM
  exact a_ret (a_post (.r1 (.tmp rfl)) (DLe.refl _) PostOk.nil.spec)
 ·replace hM:=(of_if hM).2 h1
  refine a_skip ?_
  refine a_cut (α:=Unit) (fun s=>⟨[],[],[]⟩) (fun s=>rootcauseref17_SameEvent_K1 = some r) ?_ ?_
  ·refine a_seq (ar (.cons (o_fieldAddr rfl)<|.cons (o_load_s rfl rfl rfl)<|.cons (t_len rfl)<|.cons (o_move rfl)<|.nil _) ?_)
   obtain ⟨t3,hL3,hK3⟩ := of_bind hM
   refine a_block ?_
   refine a_for (fun k2 (s : Unit)=>⟨[(2,.ref 2 0),(3,.ref 3 0),(71,.int .i64 (List.length x0.gArgs : Int)),(72,.int .i64 (k2 : Int))],[(2,some (.blk 49 (AEv.cs x0))),(3,some (.blk 49 (AEv.cs x1)))],[2,3]⟩) _ hL3 (Imp.sh (fun i=>i) rfl rfl rfl rfl rfl rfl) ?_ ?_
   ·rintro k2 _ t4 hk2 hx2 hM hE3
    replace hM : rootcauseref17_SameEvent_L2 x0 x1 k2 = some t4:=hM
    unfold rootcauseref17_SameEvent_L2 at hM
    refine a_seq (ar (.cons (o_int rfl rfl rfl)<|.nil _) ?_)
    refine a_seq ?_
    refine a_cond _ rfl (fun _=>?_) (fun c=>absurd hk2 (of_decide_eq_false c))
    refine a_skip (a_seq (a_block (a_seq (ar (.cons (o_move rfl)<|.cons (o_assign rfl)<|.nil _) ?_))))
    refine a_seq ?_
    obtain ⟨v7,h6,hM⟩ := of_bind hM
    obtain ⟨v9,h8,hM⟩ := of_bind hM
    refine ad mixed (.cons (o_fieldAddr rfl)<|.cons (o_load_s rfl rfl rfl)<|.cons (o_move rfl)<|.cons (t_index h6 rfl rfl rfl)<|.cons (o_load_es rfl rfl)<|.cons (o_fieldAddr rfl)<|.cons (o_load_s rfl rfl rfl)<|.cons (o_move rfl)<|.cons (t_index h8 rfl rfl rfl)<|.cons (o_load_es rfl rfl)<|.cons (o_int rfl rfl rfl)<|.nil _) ?_
    refine a_cond _ rfl (fun h10=>?_) (fun h10=>?_)
    ·replace hM:=(of_if hM).1 h10
     refine a_seq (ar (.cons (o_assign rfl)<|.nil _) ?_)
     obtain rfl:=Option.some.inj hM
     obtain rfl:=hE3 _ rfl
     obtain rfl:=Option.some.inj hK3
     exact a_ret (a_post (.r1 (.tmp rfl)) (DLe.refl _) PostOk.nil.spec)
    ·replace hM:=(of_if hM).2 h10
     refine a_skip (ar (.cons (o_add rfl rfl (inR_i64 hk2 hx2))<|.cons (o_move rfl)<|.nil _) ?_)
     obtain rfl:=Option.some.inj hM
     exact ⟨(),rfl,(Imp.of (fun i=>i) (.cons rfl (DLe.refl _) (.cons rfl (DLe.refl _) (.cons rfl (DLe.refl _) (.cons rfl (DLe.succ _ _) .nil)))) (.cons rfl (.refl _) (.cons rfl (.refl _) .nil)) rfl rfl rfl)⟩
   ·rintro k2 _ hk2 hx2 rfl
    refine a_seq (ar (.cons (o_int rfl rfl rfl)<|.nil _) ?_)
    refine a_seq ?_
    refine a_cond _ rfl (fun c=>absurd (of_decide_eq_true c) (Int.not_lt.2 hk2)) (fun _=>?_)
    refine a_exit ?_
    exact ⟨(),hK3,(Imp.sh (fun i=>i) rfl rfl rfl rfl rfl rfl)⟩
  ·rintro _ hM
   replace hM : rootcauseref17_SameEvent_K1 = some r:=hM
   unfold rootcauseref17_SameEvent_K1 at hM
   refine a_seq (ar (.cons (o_assign rfl)<|.nil _) ?_)
   obtain rfl:=Option.some.inj hM
   exact a_ret (a_post (.r1 (.tmp rfl)) (DLe.refl _) PostOk.nil.spec)
def rootcauseref24_zero (x0 : rootcauseref24_Rec) : Option Bool :=
 (rootcauseref24_Trim x0.gClock).bind fun v2=>
 (gb ((List.length v2 : Int) == 0) (false) (rootcauseref17_SameEvent x0.gEvent (AEv.mk 0 0 0 0 0 0 0 0 []))).bind fun v4=>
 some (((List.length v2 : Int) == 0) && v4)
theorem rootcauseref24_zero_c {x0 : rootcauseref24_Rec} {r : Bool} (hM : rootcauseref24_zero x0 = some r) : PCall Tryz.prog 48 [.agg (rootcauseref24_Rec.cs x0)] (.bool r):=by
 unfold rootcauseref24_zero at hM
 refine PCall.body Tryz.func48 Tryz.ntmps48 rfl rfl rfl rfl ?_
 refine a_seq (ar (.cons (o_box rfl rfl)<|.cons (o_assign rfl)<|.nil _) ?_)
 refine a_seq ?_
 obtain ⟨v2,h1,hM⟩ := of_bind hM
 obtain ⟨v4,h3,hM⟩ := of_bind hM
 refine ar (.cons (o_fieldAddr rfl)<|.cons (o_load_s rfl rfl rfl)<|.cons (o_call (rootcauseref24_Trim_c h1) rfl (DLeL.refl _) rfl)<|.cons (t_len rfl)<|.cons (o_int rfl rfl rfl)<|.cons (o_move rfl)<|.cons (o_guardG .bT rfl rfl (fun hb=>(.keep .nil)) (fun hb=>o_fieldAddr rfl))<|.cons (o_guardG .bT rfl rfl (fun hb=>(.strip rfl hb .nil)) (fun hb=>o_load_r rfl rfl rfl rfl))<|.cons (o_guardG .bT rfl rfl (fun hb=>.nil) (fun hb=>o_build rfl rfl rfl))<|.cons (o_guardG .bT rfl rfl (fun hb=>(.strip rfl hb (.strip rfl hb .nil))) (fun hb=>o_call (rootcauseref17_SameEvent_c (of_gb h3 hb)) rfl (.cons (DLe.refl _) (.cons (DLe.agg (.cons (DLe.refl _) (.cons (DLe.refl _) (.cons (DLe.refl _) (.cons (DLe.refl _) (.cons (DLe.refl _) (.cons (DLe.refl _) (.cons (DLe.refl _) (.cons (DLe.refl _) (.cons (DLe.nils _) .nil)))))))))) .nil)) rfl))<|.cons (o_and rfl rfl)<|.cons (o_assign rfl)<|.nil _) ?_
 obtain rfl:=Option.some.inj hM
 exact a_ret (a_post (.r1 (.tmp rfl)) (DLe.refl _) PostOk.nil.spec)
def rootcauseref24_Valid (x0 : rootcauseref24_Rec) : Option Bool :=
 (rootcauseref24_in x0.gComponent 0 8).bind fun v2=>
 if (!v2) = true then
  some false
 else
  if (x0.gWhat == 1) = true then
   (gb ((x0.gCount == 0) && (x0.gEvent.gComponent == x0.gComponent)) (false) (rootcauseref24_in x0.gEvent.gTick 0 200)).bind fun v6=>
   (gb (((((x0.gCount == 0) && (x0.gEvent.gComponent == x0.gComponent)) && v6) && (decide (1≤x0.gEvent.gKind))) && (decide (x0.gEvent.gKind≤11))) (false) (rootcauseref24_in x0.gEvent.gPeer 0 8)).bind fun v8=>
   (gb ((((((x0.gCount == 0) && (x0.gEvent.gComponent == x0.gComponent)) && v6) && (decide (1≤x0.gEvent.gKind))) && (decide (x0.gEvent.gKind≤11))) && v8) (false) (rootcauseref24_in x0.gEvent.gN 0 2147483647)).bind fun v10=>
   (gb (((((((x0.gCount == 0) && (x0.gEvent.gComponent == x0.gComponent)) && v6) && (decide (1≤x0.gEvent.gKind))) && (decide (x0.gEvent.gKind≤11))) && v8) && v10) (false) (rootcauseref24_in x0.gEvent.gCopy 0 1)).bind fun v12=>
   (gb ((((((((x0.gCount == 0) && (x0.gEvent.gComponent == x0.gComponent)) && v6) && (decide (1≤x0.gEvent.gKind))) && (decide (x0.gEvent.gKind≤11))) && v8) && v10) && v12) (false) (rootcauseref24_in x0.gEvent.gHandler 0 7)).bind fun v14=>
   some ((((((((((x0.gCount == 0) && (x0.gEvent.gComponent == x0.gComponent)) && v6) && (decide (1≤x0.gEvent.gKind))) && (decide (x0.gEvent.gKind≤11))) && v8) && v10) && v12) && v14) && (decide ((List.length x0.gEvent.gArgs : Int)≤4)))
  else
   if (x0.gWhat == 2) = true then
    (rootcauseref24_zero x0).bind fun v17=>
    some ((v17 && (decide (1≤x0.gCount))) && (decide (x0.gCount≤(IntKind.wrap .u64 (18446744073709551615 - x0.gSeq)))))
   else
    if (x0.gWhat == 3) = true then
     (rootcauseref24_zero x0).bind fun v20=>
     some (v20 && (x0.gCount == 0))
    else
     some false
theorem rootcauseref24_Valid_c {x0 : rootcauseref24_Rec} {r : Bool} (hM : rootcauseref24_Valid x0 = some r) : PCall Tryz.prog 21 [.agg (rootcauseref24_Rec.cs x0)] (.bool r):=by
 unfold rootcauseref24_Valid at hM
 refine PCall.body Tryz.func21 Tryz.ntmps21 rfl rfl rfl rfl ?_
 refine a_seq (ar (.cons (o_box rfl rfl)<|.cons (o_assign rfl)<|.nil _) ?_)
 refine a_seq (a_seq ?_)
 obtain ⟨v2,h1,hM⟩ := of_bind hM
 refine ar (.cons (o_fieldAddr rfl)<|.cons (o_load_s rfl rfl rfl)<|.cons (o_call (rootcauseref24_in_c h1) rfl (DLeL.refl _) rfl)<|.cons (o_not rfl)<|.nil _) ?_
 refine a_cond _ rfl (fun h3=>?_) (fun h3=>?_)
 ·replace hM:=(of_if hM).1 h3
  refine a_seq (ar (.cons (o_assign rfl)<|.nil _) ?_)
  obtain rfl:=Option.some.inj hM
  exact a_ret (a_post (.r1 (.tmp rfl)) (DLe.refl _) PostOk.nil.spec)
 ·replace hM:=(of_if hM).2 h3
  refine a_skip (a_seq (ar (.cons (o_fieldAddr rfl)<|.cons (o_load_r rfl rfl rfl rfl)<|.cons (o_alloc rfl)<|.cons (o_store rfl rfl rfl rfl rfl rfl rfl)<|.nil _) ?_))
  refine a_seq (a_seq (ar (.cons (o_fieldAddr rfl)<|.cons (o_load_s rfl rfl rfl)<|.nil _) ?_))
  refine a_block (a_seq (ar (.cons (o_int rfl rfl rfl)<|.cons (o_assign rfl)<|.nil _) ?_))
  refine a_cond _ rfl (fun h4=>?_) (fun h4=>?_)
  ·replace hM:=(of_if hM).1 h4
   refine a_seq ?_
   obtain ⟨v6,h5,hM⟩ := of_bind hM
   obtain ⟨v8,h7,hM⟩ := of_bind hM
   obtain ⟨v10,h9,hM⟩ := of_bind hM
   obtain ⟨v12,h11,hM⟩ := of_bind hM
   obtain ⟨v14,h13,hM⟩ := of_bind hM
   refine ar (.cons (o_fieldAddr rfl)<|.cons (o_load_s rfl rfl rfl)<|.cons (o_int rfl rfl rfl)<|.cons (o_move rfl)<|.cons (o_guardG .bT rfl rfl (fun hb=>(.keep .nil)) (fun hb=>o_fieldAddr rfl))<|.cons (o_guardG .bT rfl rfl (fun hb=>(.strip rfl hb .nil)) (fun hb=>o_load_s rfl rfl rfl))<|.cons (o_guardG .bT rfl rfl (fun hb=>(.keep .nil)) (fun hb=>o_fieldAddr rfl))<|.cons (o_guardG .bT rfl rfl (fun hb=>(.strip rfl hb .nil)) (fun hb=>o_load_s rfl rfl rfl))<|.cons (o_guardG .bT rfl rfl (fun hb=>(.strip rfl hb (.strip rfl hb .nil))) (fun hb=>o_int rfl rfl rfl))<|.cons (o_and rfl rfl)<|.cons (o_move rfl)<|.cons (o_guardG .bT rfl rfl (fun hb=>(.keep .nil)) (fun hb=>o_fieldAddr rfl))<|.cons (o_guardG .bT rfl rfl (fun hb=>(.strip rfl hb .nil)) (fun hb=>o_load_s rfl rfl rfl))<|.cons (o_guardG .bT rfl rfl (fun hb=>(.strip rfl hb .nil)) (fun hb=>o_call (rootcauseref24_in_c (of_gb h5 hb)) rfl (DLeL.refl _) rfl))<|.cons (o_and rfl rfl)<|.cons (o_move rfl)<|.cons (o_guardG .bT rfl rfl (fun hb=>(.keep .nil)) (fun hb=>o_fieldAddr rfl))<|.cons (o_guardG .bT rfl rfl (fun hb=>(.strip rfl hb .nil)) (fun hb=>o_load_s rfl rfl rfl))<|.cons (o_guardG .bT rfl rfl (fun hb=>(.strip rfl hb .nil)) (fun hb=>o_int rfl rfl rfl))<|.cons (o_and rfl rfl)<|.cons (o_move rfl)<|.cons (o_guardG .bT rfl rfl (fun hb=>(.keep .nil)) (fun hb=>o_fieldAddr rfl))<|.cons (o_guardG .bT rfl rfl (fun hb=>(.strip rfl hb .nil)) (fun hb=>o_load_s rfl rfl rfl))<|.cons (o_guardG .bT rfl rfl (fun hb=>(.strip rfl hb .nil)) (fun hb=>o_int rfl rfl rfl))<|.cons (o_and rfl rfl)<|.cons (o_move rfl)<|.cons (o_guardG .bT rfl rfl (fun hb=>(.keep .nil)) (fun hb=>o_fieldAddr rfl))<|.cons (o_guardG .bT rfl rfl (fun hb=>(.strip rfl hb .nil)) (fun hb=>o_load_s rfl rfl rfl))<|.cons (o_guardG .bT rfl rfl (fun hb=>(.strip rfl hb .nil)) (fun hb=>o_call (rootcauseref24_in_c (of_gb h7 hb)) rfl (DLeL.refl _) rfl))<|.cons (o_and rfl rfl)<|.cons (o_move rfl)<|.cons (o_guardG .bT rfl rfl (fun hb=>(.keep .nil)) (fun hb=>o_fieldAddr rfl))<|.cons (o_guardG .bT rfl rfl (fun hb=>(.strip rfl hb .nil)) (fun hb=>o_load_s rfl rfl rfl))<|.cons (o_guardG .bT rfl rfl (fun hb=>(.strip rfl hb .nil)) (fun hb=>o_call (rootcauseref24_in_c (of_gb h9 hb)) rfl (DLeL.refl _) rfl))<|.cons (o_and rfl rfl)<|.cons (o_move rfl)<|.cons (o_guardG .bT rfl rfl (fun hb=>(.keep .nil)) (fun hb=>o_fieldAddr rfl))<|.cons (o_guardG .bT rfl rfl (fun hb=>(.strip rfl hb .nil)) (fun hb=>o_load_s rfl rfl rfl))<|.cons (o_guardG .bT rfl rfl (fun hb=>(.strip rfl hb .nil)) (fun hb=>o_call (rootcauseref24_in_c (of_gb h11 hb)) rfl (DLeL.refl _) rfl))<|.cons (o_and rfl rfl)<|.cons (o_move rfl)<|.cons (o_guardG .bT rfl rfl (fun hb=>(.keep .nil)) (fun hb=>o_fieldAddr rfl))<|.cons (o_guardG .bT rfl rfl (fun hb=>(.strip rfl hb .nil)) (fun hb=>o_load_s rfl rfl rfl))<|.cons (o_guardG .bT rfl rfl (fun hb=>(.strip rfl hb .nil)) (fun hb=>o_call (rootcauseref24_in_c (of_gb h13 hb)) rfl (DLeL.refl _) rfl))<|.cons (o_and rfl rfl)<|.cons (o_move rfl)<|.cons (o_guardG .bT rfl rfl (fun hb=>(.keep .nil)) (fun hb=>o_fieldAddr rfl))<|.cons (o_guardG .bT rfl rfl (fun hb=>(.strip rfl hb .nil)) (fun hb=>o_load_s rfl rfl rfl))<|.cons (o_guardG .bT rfl rfl (fun hb=>(.strip rfl hb .nil)) (fun hb=>t_len rfl))<|.cons (o_guardG .bT rfl rfl (fun hb=>(.strip rfl hb .nil)) (fun hb=>o_int rfl rfl rfl))<|.cons (o_and rfl rfl)<|.cons (o_assign rfl)<|.nil _) ?_
   obtain rfl:=Option.some.inj hM
   exact a_ret (a_post (.r1 (.tmp rfl)) (DLe.refl _) PostOk.nil.spec)
  ·replace hM:=(of_if hM).2 h4
   refine a_seq (ar (.cons (o_int rfl rfl rfl)<|.cons (o_assign rfl)<|.nil _) ?_)
   refine a_cond _ rfl (fun h15=>?_) (fun h15=>?_)
   ·replace hM:=(of_if hM).1 h15
    refine a_seq ?_
    obtain ⟨v17,h16,hM⟩ := of_bind hM
    refine ar (.cons (o_load_r rfl rfl rfl rfl)<|.cons (o_call (rootcauseref24_zero_c h16) rfl (DLeL.refl _) rfl)<|.cons (o_move rfl)<|.cons (o_guardG .bT rfl rfl (fun hb=>(.keep .nil)) (fun hb=>o_fieldAddr rfl))<|.cons (o_guardG .bT rfl rfl (fun hb=>(.strip rfl hb .nil)) (fun hb=>o_load_s rfl rfl rfl))<|.cons (o_guardG .bT rfl rfl (fun hb=>(.strip rfl hb .nil)) (fun hb=>o_int rfl rfl rfl))<|.cons (o_and rfl rfl)<|.cons (o_move rfl)<|.cons (o_guardG .bT rfl rfl (fun hb=>(.keep .nil)) (fun hb=>o_fieldAddr rfl))<|.cons (o_guardG .bT rfl rfl (fun hb=>(.strip rfl hb .nil)) (fun hb=>o_load_s rfl rfl rfl))<|.cons (o_guardG .bT rfl rfl (fun hb=>(.keep .nil)) (fun hb=>o_fieldAddr rfl))<|.cons (o_guardG .bT rfl rfl (fun hb=>(.strip rfl hb .nil)) (fun hb=>o_load_s rfl rfl rfl))<|.cons (o_guardG .bT rfl rfl (fun hb=>(.strip rfl hb .nil)) (fun hb=>o_int rfl rfl rfl))<|.cons (o_guardG .bT rfl rfl (fun hb=>(.strip rfl hb (.strip rfl hb .nil))) (fun hb=>o_int rfl rfl rfl))<|.cons (o_and rfl rfl)<|.cons (o_assign rfl)<|.nil _) ?_
    obtain rfl:=Option.some.inj hM
    exact a_ret (a_post (.r1 (.tmp rfl)) (DLe.refl _) PostOk.nil.spec)
   ·replace hM:=(of_if hM).2 h15
    refine a_seq (ar (.cons (o_int rfl rfl rfl)<|.cons (o_assign rfl)<|.nil _) ?_)
    refine a_cond _ rfl (fun h18=>?_) (fun h18=>?_)
    ·replace hM:=(of_if hM).1 h18
     refine a_seq ?_
     obtain ⟨v20,h19,hM⟩ := of_bind hM
     refine ar (.cons (o_load_r rfl rfl rfl rfl)<|.cons (o_call (rootcauseref24_zero_c h19) rfl (DLeL.refl _) rfl)<|.cons (o_move rfl)<|.cons (o_guardG .bT rfl rfl (fun hb=>(.keep .nil)) (fun hb=>o_fieldAddr rfl))<|.cons (o_guardG .bT rfl rfl (fun hb=>(.strip rfl hb .nil)) (fun hb=>o_load_s rfl rfl rfl))<|.cons (o_guardG .bT rfl rfl (fun hb=>(.strip rfl hb .nil)) (fun hb=>o_int rfl rfl rfl))<|.cons (o_and rfl rfl)<|.cons (o_assign rfl)<|.nil _) ?_
     obtain rfl:=Option.some.inj hM
     exact a_ret (a_post (.r1 (.tmp rfl)) (DLe.refl _) PostOk.nil.spec)
    ·replace hM:=(of_if hM).2 h18
     refine a_skip (a_seq (ar (.cons (o_assign rfl)<|.nil _) ?_))
     obtain rfl:=Option.some.inj hM
     exact a_ret (a_post (.r1 (.tmp rfl)) (DLe.refl _) PostOk.nil.spec)
def rootcauseref28_Record_K1 (a6 : List rootcauseref24_Rec) : Option ((List rootcauseref24_Rec) × Int) :=
 some (a6,0)
def rootcauseref28_Record_L2 (x0 : List AEv) (x2 : Int) (v5 : (List (List Int))) (k7 : Nat) (a8 : List rootcauseref24_Rec) : Option (Ctl (List rootcauseref24_Rec) ((List rootcauseref24_Rec) × Int)) :=
 (idx x0 (k7 : Int)).bind fun v13=>
 if (v13.gComponent != x2) = true then
  some (.next a8)
 else
  (idx v5 (k7 : Int)).bind fun v16=>
  (rootcauseref24_Valid (rootcauseref24_Rec.mk 1 x2 (IntKind.wrap .u64 (List.length a8 : Int)) 0 v16 v13)).bind fun v18=>
  if (!v18) = true then
   some (.done (([] : List rootcauseref24_Rec),6))
  else
   chk (apOk 144 (List.length a8 + List.length [(rootcauseref24_Rec.mk 1 x2 (IntKind.wrap .u64 (List.length a8 : Int)) 0 v16 v13)]))<|
   some (.next (a8++[(rootcauseref24_Rec.mk 1 x2 (IntKind.wrap .u64 (List.length a8 : Int)) 0 v16 v13)]))
def rootcauseref28_Record (x0 : List AEv) (x1 : Int) (x2 : Int) : Option ((List rootcauseref24_Rec) × Int) :=
 (rootcauseref28_Check x0 x1).bind fun v2=>
 if (((v2 != 0) || (decide (x2 < 0))) || (decide (x1 < x2))) = true then
  some (([] : List rootcauseref24_Rec),1)
 else
  (rootcauseref28_Clocks x0 x1).bind fun v5=>
  (forM' (E:=(List rootcauseref24_Rec) × Int) 9223372036854775807 (List.length x0 : Int) (fun k7 s=>rootcauseref28_Record_L2 x0 x2 v5 k7 s) ([] : List rootcauseref24_Rec)).bind fun
   | .next s=>rootcauseref28_Record_K1 s
   | .done r=>some r
theorem rootcauseref28_Record_c {x0 : List AEv} {x1 : Int} {x2 : Int} {r : (List rootcauseref24_Rec) × Int} (hM : rootcauseref28_Record x0 x1 x2 = some r) : PCall Tryz.prog 8 [.sl 9 (List.map AEv.dv x0),.int .i64 x1,.int .i64 x2] (.tup [.sl 14 (List.map rootcauseref24_Rec.dv r.1),.int .i64 r.2]):=by
 unfold rootcauseref28_Record at hM
 refine PCall.body Tryz.func8 Tryz.ntmps8 rfl rfl rfl rfl ?_
 refine a_seq (ar (.cons (o_assign rfl)<|.cons (o_assign rfl)<|.nil _) ?_)
 refine a_seq (a_seq ?_)
 obtain ⟨v2,h1,hM⟩ := of_bind hM
 refine ar (.cons (o_move rfl)<|.cons (o_move rfl)<|.cons (o_call (rootcauseref28_Check_c h1) rfl (DLeL.refl _) rfl)<|.cons (o_assign rfl)<|.nil _) ?_
 refine a_seq (ar (.cons (o_move rfl)<|.cons (o_int rfl rfl rfl)<|.cons (o_move rfl)<|.cons (o_guardG .bF rfl rfl (fun hb=>(.keep .nil)) (fun hb=>o_move rfl))<|.cons (o_guardG .bF rfl rfl (fun hb=>(.strip rfl hb .nil)) (fun hb=>o_int rfl rfl rfl))<|.cons (o_or rfl rfl)<|.cons (o_move rfl)<|.cons (o_guardG .bF rfl rfl (fun hb=>(.keep .nil)) (fun hb=>o_move rfl))<|.cons (o_guardG .bF rfl rfl (fun hb=>(.keep .nil)) (fun hb=>o_move rfl))<|.cons (o_guardG .bF rfl rfl (fun hb=>(.strip rfl hb (.strip rfl hb .nil))) (fun hb=>o_int rfl rfl rfl))<|.cons (o_or rfl rfl)<|.nil _) ?_)
 refine a_cond _ rfl (fun h3=>?_) (fun h3=>?_)
 ·replace hM:=(of_if hM).1 h3
  refine a_seq (ar (.cons (o_assign rfl)<|.cons (o_assign rfl)<|.nil _) ?_)
  obtain rfl:=Option.some.inj hM
  exact a_ret (a_post (.r2 (.tmp rfl) (.tmp rfl)) (DLe.tup (.cons (DLe.nils _) (.cons (DLe.refl _) .nil))) PostOk.nil.spec)
 ·replace hM:=(of_if hM).2 h3
  refine a_skip (a_seq (ar (.cons (o_assign rfl)<|.nil _) ?_))
  refine a_seq ?_
  obtain ⟨v5,h4,hM⟩ := of_bind hM
  refine ar (.cons (o_move rfl)<|.cons (o_move rfl)<|.cons (o_call (rootcauseref28_Clocks_c h4) rfl (DLeL.refl _) rfl)<|.cons (o_assign rfl)<|.nil _) ?_
  refine a_cut (α:=(List rootcauseref24_Rec)) (fun s=>⟨[(9,.sl 14 (List.map rootcauseref24_Rec.dv s))],[],[]⟩) (fun s=>rootcauseref28_Record_K1 s = some r) ?_ ?_
  ·refine a_seq (ar (.cons (o_move rfl)<|.cons (t_len rfl)<|.cons (o_move rfl)<|.nil _) ?_)
   obtain ⟨t9,hL9,hK9⟩ := of_bind hM
   refine a_block ?_
   refine a_for (fun k7 (s : (List rootcauseref24_Rec))=>⟨[(2,.int .i64 x2),(9,.row 10001),(10,.sl 1 (List.map (encSl 1 (DV.int .u64)) v5)),(31,.sl 9 (List.map AEv.dv x0)),(32,.int .i64 (List.length x0 : Int)),(33,.int .i64 (k7 : Int))],[(10001,some (.row 68 14 (List.map rootcauseref24_Rec.dv s)))],[10001]⟩) _ hL9 ((Imp.nilRow (t:=9) (id:=10002) 68 14 rfl rfl).trans (Imp.sh (fun i=>bif Nat.beq i 10001 then 10002 else i) rfl rfl rfl rfl rfl rfl)) ?_ ?_
   ·rintro k7 a8 t10 hk7 hx7 hM hE9
    replace hM : rootcauseref28_Record_L2 x0 x2 v5 k7 a8 = some t10:=hM
    unfold rootcauseref28_Record_L2 at hM
    refine a_seq (ar (.cons (o_int rfl rfl rfl)<|.nil _) ?_)
    refine a_seq ?_
    refine a_cond _ rfl (fun _=>?_) (fun c=>absurd hk7 (of_decide_eq_false c))
    refine a_skip (a_seq (a_block (a_seq ?_)))
    obtain ⟨v13,h12,hM⟩ := of_bind hM
    refine ar (.cons (o_move rfl)<|.cons (t_index h12 rfl rfl rfl)<|.cons (o_load_er rfl rfl rfl)<|.cons (o_alloc rfl)<|.cons (o_assign rfl)<|.cons (o_store rfl rfl rfl rfl rfl rfl rfl)<|.nil _) ?_
    refine a_seq (a_seq (ar (.cons (o_fieldAddr rfl)<|.cons (o_load_s rfl rfl rfl)<|.cons (o_move rfl)<|.cons (o_int rfl rfl rfl)<|.nil _) ?_))
    refine a_cond _ rfl (fun h14=>?_) (fun h14=>?_)
    ·replace hM:=(of_if hM).1 h14
     refine a_exit (ar (.cons (o_add rfl rfl (inR_i64 hk7 hx7))<|.cons (o_move rfl)<|.nil _) ?_)
     obtain rfl:=Option.some.inj hM
     exact ⟨a8,rfl,(Imp.of (fun i=>i) (.cons rfl (DLe.refl _) (.cons rfl (DLe.refl _) (.cons rfl (DLe.refl _) (.cons rfl (DLe.refl _) (.cons rfl (DLe.refl _) (.cons rfl (DLe.succ _ _) .nil)))))) (.cons rfl (.refl _) .nil) rfl rfl rfl)⟩
    ·replace hM:=(of_if hM).2 h14
     refine a_skip (a_seq ?_)
     obtain ⟨v16,h15,hM⟩ := of_bind hM
     refine ad mixed (.cons (o_move rfl)<|.cons (o_move rfl)<|.cons (t_len_r rfl rfl)<|.cons (o_conv_w rfl)<|.cons (o_move rfl)<|.cons (o_move rfl)<|.cons (t_index h15 rfl rfl rfl)<|.cons (o_load_es rfl rfl)<|.cons (o_load_r rfl rfl rfl rfl)<|.cons (o_build rfl rfl rfl)<|.cons (o_alloc rfl)<|.cons (o_store rfl rfl rfl rfl rfl rfl rfl)<|.nil _) ?_
     refine a_seq (a_seq ?_)
     obtain ⟨v18,h17,hM⟩ := of_bind hM
     refine ar (.cons (o_load_r rfl rfl rfl rfl)<|.cons (o_call (rootcauseref24_Valid_c h17) rfl (DLeL.refl _) rfl)<|.cons (o_not rfl)<|.nil _) ?_
     refine a_cond _ rfl (fun h19=>?_) (fun h19=>?_)
     ·replace hM:=(of_if hM).1 h19
      refine a_seq (ar (.cons (o_assign rfl)<|.cons (o_assign rfl)<|.nil _) ?_)
      obtain rfl:=Option.some.inj hM
      obtain rfl:=hE9 _ rfl
      obtain rfl:=Option.some.inj hK9
      exact a_ret (a_post (.r2 (.tmp rfl) (.tmp rfl)) (DLe.tup (.cons (DLe.nils _) (.cons (DLe.refl _) .nil))) PostOk.nil.spec)
     ·replace hM:=(of_if hM).2 h19
      refine a_skip ?_
      obtain ⟨h20,hM⟩ := of_chk hM
      refine ar (.cons (o_move rfl)<|.cons (o_load_r rfl rfl rfl rfl)<|.cons (t_build rootcauseref24_Rec.dv ([(rootcauseref24_Rec.mk 1 x2 (IntKind.wrap .u64 (List.length a8 : Int)) 0 v16 v13)] : List rootcauseref24_Rec) rfl rfl rfl rfl rfl rfl rfl)<|.cons (t_append [(rootcauseref24_Rec.mk 1 x2 (IntKind.wrap .u64 (List.length a8 : Int)) 0 v16 v13)] h20 rfl rfl rfl (Src.row rfl))<|.cons (o_assign rfl)<|.nil _) ?_
      refine ar (.cons (o_add rfl rfl (inR_i64 hk7 hx7))<|.cons (o_move rfl)<|.nil _) ?_
      obtain rfl:=Option.some.inj hM
      exact ⟨(a8++[(rootcauseref24_Rec.mk 1 x2 (IntKind.wrap .u64 (List.length a8 : Int)) 0 v16 v13)]),rfl,(Imp.of (fun i=>bif Nat.beq i 10001 then 58 else i) (.cons rfl (DLe.refl _) (.cons rfl (DLe.refl _) (.cons rfl (DLe.refl _) (.cons rfl (DLe.refl _) (.cons rfl (DLe.refl _) (.cons rfl (DLe.succ _ _) .nil)))))) (.cons rfl (.refl _) .nil) rfl rfl rfl)⟩
   ·rintro k7 a8 hk7 hx7 rfl
    refine a_seq (ar (.cons (o_int rfl rfl rfl)<|.nil _) ?_)
    refine a_seq ?_
    refine a_cond _ rfl (fun c=>absurd (of_decide_eq_true c) (Int.not_lt.2 hk7)) (fun _=>?_)
    refine a_exit ?_
    exact ⟨a8,hK9,((Imp.freeze (id:=10001) rfl).trans (Imp.sh (fun i=>i) rfl rfl rfl rfl rfl rfl))⟩
  ·rintro a6 hM
   replace hM : rootcauseref28_Record_K1 a6 = some r:=hM
   unfold rootcauseref28_Record_K1 at hM
   refine a_seq (ar (.cons (o_move rfl)<|.cons (o_assign rfl)<|.cons (o_assign rfl)<|.nil _) ?_)
   obtain rfl:=Option.some.inj hM
   exact a_ret (a_post (.r2 (.tmp rfl) (.tmp rfl)) (DLe.refl _) PostOk.nil.spec)
def rootcauseref28_Dropped_K1 (a1 : List rootcauseref24_Rec) : Option (List rootcauseref24_Rec) :=
 some a1
def rootcauseref28_Dropped_L2 (x0 : List rootcauseref24_Rec) (x1 : List Bool) (k2 : Nat) (a3 : List rootcauseref24_Rec) : Option (List rootcauseref24_Rec) :=
 (idx x0 (k2 : Int)).bind fun v8=>
 (idx x1 (k2 : Int)).bind fun v10=>
 if v10 = true then
  chk (apOk 144 (List.length a3 + List.length [v8]))<|
  some (a3++[v8])
 else
  (gb (decide (0 < (List.length a3 : Int))) (rootcauseref24_Rec.mk 0 0 0 0 [] (AEv.mk 0 0 0 0 0 0 0 0 [])) (idx a3 (IntKind.wrap .i64 ((List.length a3 : Int) - 1)))).bind fun v14=>
  (gb ((decide (0 < (List.length a3 : Int))) && (v14.gWhat == 2)) (rootcauseref24_Rec.mk 0 0 0 0 [] (AEv.mk 0 0 0 0 0 0 0 0 [])) (idx a3 (IntKind.wrap .i64 ((List.length a3 : Int) - 1)))).bind fun v16=>
  (gb ((decide (0 < (List.length a3 : Int))) && (v14.gWhat == 2)) (rootcauseref24_Rec.mk 0 0 0 0 [] (AEv.mk 0 0 0 0 0 0 0 0 [])) (idx a3 (IntKind.wrap .i64 ((List.length a3 : Int) - 1)))).bind fun v18=>
  if (((decide (0 < (List.length a3 : Int))) && (v14.gWhat == 2)) && ((IntKind.wrap .u64 (v16.gSeq + v18.gCount)) == v8.gSeq)) = true then
   (idx a3 (IntKind.wrap .i64 ((List.length a3 : Int) - 1))).bind fun v21=>
   (idx a3 (IntKind.wrap .i64 ((List.length a3 : Int) - 1))).bind fun v23=>
   some (List.set a3 (Int.toNat (IntKind.wrap .i64 ((List.length a3 : Int) - 1))) (rootcauseref24_Rec.mk v23.gWhat v23.gComponent v23.gSeq (IntKind.wrap .u64 (v21.gCount + 1)) v23.gClock v23.gEvent))
  else
   chk (apOk 144 (List.length a3 + List.length [(rootcauseref24_Rec.mk 2 v8.gComponent v8.gSeq 1 [] (AEv.mk 0 0 0 0 0 0 0 0 []))]))<|
   some (a3++[(rootcauseref24_Rec.mk 2 v8.gComponent v8.gSeq 1 [] (AEv.mk 0 0 0 0 0 0 0 0 []))])
def rootcauseref28_Dropped (x0 : List rootcauseref24_Rec) (x1 : List Bool) : Option (List rootcauseref24_Rec) :=
 (foldM' 9223372036854775807 (List.length x0 : Int) (fun k2 s=>rootcauseref28_Dropped_L2 x0 x1 k2 s) ([] : List rootcauseref24_Rec)).bind fun s=>rootcauseref28_Dropped_K1 s
theorem rootcauseref28_Dropped_c {x0 : List rootcauseref24_Rec} {x1 : List Bool} {r : (List rootcauseref24_Rec)} (hM : rootcauseref28_Dropped x0 x1 = some r) : PCall Tryz.prog 28 [.sl 14 (List.map rootcauseref24_Rec.dv x0),.sl 1 (List.map DV.bool x1)] (.sl 14 (List.map rootcauseref24_Rec.dv r)):=by
 unfold rootcauseref28_Dropped at hM
 refine PCall.body Tryz.func28 Tryz.ntmps28 rfl rfl rfl rfl ?_
 refine a_seq (ar (.cons (o_assign rfl)<|.nil _) ?_)
 refine a_seq (ar (.cons (o_assign rfl)<|.nil _) ?_)
 refine a_cut (α:=(List rootcauseref24_Rec)) (fun s=>⟨[(5,.sl 14 (List.map rootcauseref24_Rec.dv s))],[],[]⟩) (fun s=>rootcauseref28_Dropped_K1 s = some r) ?_ ?_
 ·refine a_seq (ar (.cons (o_move rfl)<|.cons (t_len rfl)<|.cons (o_move rfl)<|.nil _) ?_)
  obtain ⟨a3,hL4,hK4⟩ := of_bind hM
  refine a_block ?_
  refine a_fold (fun k2 (s : (List rootcauseref24_Rec))=>⟨[(1,.sl 1 (List.map DV.bool x1)),(5,.row 10001),(9,.sl 14 (List.map rootcauseref24_Rec.dv x0)),(10,.int .i64 (List.length x0 : Int)),(11,.int .i64 (k2 : Int))],[(10001,some (.row 68 14 (List.map rootcauseref24_Rec.dv s)))],[10001]⟩) _ hL4 ((Imp.nilRow (t:=5) (id:=10002) 68 14 rfl rfl).trans (Imp.sh (fun i=>bif Nat.beq i 10001 then 10002 else i) rfl rfl rfl rfl rfl rfl)) ?_ ?_
  ·rintro k2 a3 t5 hk2 hx2 hM
   replace hM : rootcauseref28_Dropped_L2 x0 x1 k2 a3 = some t5:=hM
   unfold rootcauseref28_Dropped_L2 at hM
   refine a_seq (ar (.cons (o_int rfl rfl rfl)<|.nil _) ?_)
   refine a_seq ?_
   refine a_cond _ rfl (fun _=>?_) (fun c=>absurd hk2 (of_decide_eq_false c))
   refine a_skip (a_seq (a_block (a_seq ?_)))
   obtain ⟨v8,h7,hM⟩ := of_bind hM
   refine ar (.cons (o_move rfl)<|.cons (t_index h7 rfl rfl rfl)<|.cons (o_load_er rfl rfl rfl)<|.cons (o_alloc rfl)<|.cons (o_assign rfl)<|.cons (o_store rfl rfl rfl rfl rfl rfl rfl)<|.nil _) ?_
   refine a_seq (a_seq ?_)
   obtain ⟨v10,h9,hM⟩ := of_bind hM
   refine ar (.cons (o_move rfl)<|.cons (o_move rfl)<|.cons (t_index h9 rfl rfl rfl)<|.cons (o_load_es rfl rfl)<|.nil _) ?_
   refine a_cond _ rfl (fun h11=>?_) (fun h11=>?_)
   ·replace hM:=(of_if hM).1 h11
    refine a_seq ?_
    obtain ⟨h12,hM⟩ := of_chk hM
    refine ar (.cons (o_move rfl)<|.cons (o_load_r rfl rfl rfl rfl)<|.cons (t_build rootcauseref24_Rec.dv ([v8] : List rootcauseref24_Rec) rfl rfl rfl rfl rfl rfl rfl)<|.cons (t_append [v8] h12 rfl rfl rfl (Src.row rfl))<|.cons (o_assign rfl)<|.nil _) ?_
    refine a_exit (ar (.cons (o_add rfl rfl (inR_i64 hk2 hx2))<|.cons (o_move rfl)<|.nil _) ?_)
    obtain rfl:=Option.some.inj hM
    exact (Imp.of (fun i=>bif Nat.beq i 10001 then 23 else i) (.cons rfl (DLe.refl _) (.cons rfl (DLe.refl _) (.cons rfl (DLe.refl _) (.cons rfl (DLe.refl _) (.cons rfl (DLe.succ _ _) .nil))))) (.cons rfl (.refl _) .nil) rfl rfl rfl)
   ·replace hM:=(of_if hM).2 h11
    refine a_skip (a_seq (a_seq (ar (.cons (o_move rfl)<|.cons (t_len_r rfl rfl)<|.cons (o_assign rfl)<|.nil _) ?_)))
    refine a_seq ?_
    obtain ⟨v14,h13,hM⟩ := of_bind hM
    obtain ⟨v16,h15,hM⟩ := of_bind hM
    obtain ⟨v18,h17,hM⟩ := of_bind hM
    refine ad mixed (.cons (o_move rfl)<|.cons (o_int rfl rfl rfl)<|.cons (o_move rfl)<|.cons (o_guardG .bT rfl rfl (fun hb=>(.keep .nil)) (fun hb=>o_move rfl))<|.cons (o_guardG .bT rfl rfl (fun hb=>(.keep .nil)) (fun hb=>o_move rfl))<|.cons (o_guardG .bT rfl rfl (fun hb=>(.strip rfl hb .nil)) (fun hb=>o_int rfl rfl rfl))<|.cons (o_guardG .bT rfl rfl (fun hb=>(.strip rfl hb (.strip rfl hb .nil))) (fun hb=>t_index_r (of_gb h13 hb) rfl rfl rfl))<|.cons (o_guardG .bT rfl rfl (fun hb=>(.strip rfl hb .nil)) (fun hb=>o_fieldAddr_p rfl))<|.cons (o_guardG .bT rfl rfl (fun hb=>(.strip rfl hb .nil)) (fun hb=>t_load_ps (of_gb h13 hb) rfl rfl rfl rfl))<|.cons (o_guardG .bT rfl rfl (fun hb=>(.strip rfl hb .nil)) (fun hb=>o_int rfl rfl rfl))<|.cons (o_and rfl rfl)<|.cons (o_move rfl)<|.cons (o_guardG .bT rfl rfl (fun hb=>(.keep .nil)) (fun hb=>o_move rfl))<|.cons (o_guardG .bT rfl rfl (fun hb=>(.keep .nil)) (fun hb=>o_move rfl))<|.cons (o_guardG .bT rfl rfl (fun hb=>(.strip rfl hb .nil)) (fun hb=>o_int rfl rfl rfl))<|.cons (o_guardG .bT rfl rfl (fun hb=>(.strip rfl hb (.strip rfl hb .nil))) (fun hb=>t_index_r (of_gb h15 hb) rfl rfl rfl))<|.cons (o_guardG .bT rfl rfl (fun hb=>(.strip rfl hb .nil)) (fun hb=>o_fieldAddr_p rfl))<|.cons (o_guardG .bT rfl rfl (fun hb=>(.strip rfl hb .nil)) (fun hb=>t_load_ps (of_gb h15 hb) rfl rfl rfl rfl))<|.cons (o_guardG .bT rfl rfl (fun hb=>(.keep .nil)) (fun hb=>o_move rfl))<|.cons (o_guardG .bT rfl rfl (fun hb=>(.keep .nil)) (fun hb=>o_move rfl))<|.cons (o_guardG .bT rfl rfl (fun hb=>(.strip rfl hb .nil)) (fun hb=>o_int rfl rfl rfl))<|.cons (o_guardG .bT rfl rfl (fun hb=>(.strip rfl hb (.strip rfl hb .nil))) (fun hb=>t_index_r (of_gb h17 hb) rfl rfl rfl))<|.cons (o_guardG .bT rfl rfl (fun hb=>(.strip rfl hb .nil)) (fun hb=>o_fieldAddr_p rfl))<|.cons (o_guardG .bT rfl rfl (fun hb=>(.strip rfl hb .nil)) (fun hb=>t_load_ps (of_gb h17 hb) rfl rfl rfl rfl))<|.cons (o_guardG .bT rfl rfl (fun hb=>(.strip rfl hb (.strip rfl hb .nil))) (fun hb=>o_int rfl rfl rfl))<|.cons (o_guardG .bT rfl rfl (fun hb=>(.keep .nil)) (fun hb=>o_fieldAddr rfl))<|.cons (o_guardG .bT rfl rfl (fun hb=>(.strip rfl hb .nil)) (fun hb=>o_load_s rfl rfl rfl))<|.cons (o_guardG .bT rfl rfl (fun hb=>(.strip rfl hb (.strip rfl hb .nil))) (fun hb=>o_int rfl rfl rfl))<|.cons (o_and rfl rfl)<|.nil _) ?_
    refine a_cond _ rfl (fun h19=>?_) (fun h19=>?_)
    ·replace hM:=(of_if hM).1 h19
     refine a_seq ?_
     obtain ⟨v21,h20,hM⟩ := of_bind hM
     obtain ⟨v23,h22,hM⟩ := of_bind hM
     refine ar (.cons (o_move rfl)<|.cons (o_move rfl)<|.cons (o_int rfl rfl rfl)<|.cons (t_index_r h20 rfl rfl rfl)<|.cons (o_fieldAddr_p rfl)<|.cons (t_load_ps h20 rfl rfl rfl rfl)<|.cons (o_int rfl rfl rfl)<|.cons (t_index_r h22 rfl rfl rfl)<|.cons (o_fieldAddr_p rfl)<|.cons (t_store_p (rootcauseref24_Rec.mk v23.gWhat v23.gComponent v23.gSeq (IntKind.wrap .u64 (v21.gCount + 1)) v23.gClock v23.gEvent) h22 rfl rfl rfl rfl rfl rfl rfl rfl rfl rfl rfl)<|.nil _) ?_
     refine a_exit (ar (.cons (o_add rfl rfl (inR_i64 hk2 hx2))<|.cons (o_move rfl)<|.nil _) ?_)
     obtain rfl:=Option.some.inj hM
     exact (Imp.of (fun i=>i) (.cons rfl (DLe.refl _) (.cons rfl (DLe.refl _) (.cons rfl (DLe.refl _) (.cons rfl (DLe.refl _) (.cons rfl (DLe.succ _ _) .nil))))) (.cons rfl (.refl _) .nil) rfl rfl rfl)
    ·replace hM:=(of_if hM).2 h19
     refine a_skip ?_
     obtain ⟨h24,hM⟩ := of_chk hM
     refine ar (.cons (o_move rfl)<|.cons (o_fieldAddr rfl)<|.cons (o_load_s rfl rfl rfl)<|.cons (o_fieldAddr rfl)<|.cons (o_load_s rfl rfl rfl)<|.cons (o_build rfl rfl rfl)<|.cons (t_buildW rootcauseref24_Rec.dv ([(rootcauseref24_Rec.mk 2 v8.gComponent v8.gSeq 1 [] (AEv.mk 0 0 0 0 0 0 0 0 []))] : List rootcauseref24_Rec) rfl rfl rfl rfl rfl rfl (.cons (DLe.agg (.cons (DLe.refl _) (.cons (DLe.refl _) (.cons (DLe.refl _) (.cons (DLe.refl _) (.cons (DLe.nils _) (.cons (DLe.refl _) (.cons (DLe.refl _) (.cons (DLe.refl _) (.cons (DLe.refl _) (.cons (DLe.refl _) (.cons (DLe.refl _) (.cons (DLe.refl _) (.cons (DLe.refl _) (.cons (DLe.nils _) .nil))))))))))))))) .nil))<|.cons (t_append [(rootcauseref24_Rec.mk 2 v8.gComponent v8.gSeq 1 [] (AEv.mk 0 0 0 0 0 0 0 0 []))] h24 rfl rfl rfl (Src.row rfl))<|.cons (o_assign rfl)<|.nil _) ?_
     refine ar (.cons (o_add rfl rfl (inR_i64 hk2 hx2))<|.cons (o_move rfl)<|.nil _) ?_
     obtain rfl:=Option.some.inj hM
     exact (Imp.of (fun i=>bif Nat.beq i 10001 then 71 else i) (.cons rfl (DLe.refl _) (.cons rfl (DLe.refl _) (.cons rfl (DLe.refl _) (.cons rfl (DLe.refl _) (.cons rfl (DLe.succ _ _) .nil))))) (.cons rfl (.refl _) .nil) rfl rfl rfl)
  ·rintro k2 hk2 hx2
   refine a_seq (ar (.cons (o_int rfl rfl rfl)<|.nil _) ?_)
   refine a_seq ?_
   refine a_cond _ rfl (fun c=>absurd (of_decide_eq_true c) (Int.not_lt.2 hk2)) (fun _=>?_)
   refine a_exit ?_
   exact ⟨a3,hK4,((Imp.freeze (id:=10001) rfl).trans (Imp.sh (fun i=>i) rfl rfl rfl rfl rfl rfl))⟩
 ·rintro a1 hM
  replace hM : rootcauseref28_Dropped_K1 a1 = some r:=hM
  unfold rootcauseref28_Dropped_K1 at hM
  refine a_seq (ar (.cons (o_move rfl)<|.cons (o_assign rfl)<|.nil _) ?_)
  obtain rfl:=Option.some.inj hM
  exact a_ret (a_post (.r1 (.tmp rfl)) (DLe.refl _) PostOk.nil.spec)
def rootcauselaw24_Record (x0 : rootcauseref24_Rec) : Option (RRec × Bool) :=
 (vclock_Of x0.gClock).bind fun v2=>
 some ((RRec.mk x0.gComponent x0.gSeq v2.1 x0.gWhat x0.gEvent x0.gCount),(v2.2 == 0))
theorem rootcauselaw24_Record_c {x0 : rootcauseref24_Rec} {r : RRec × Bool} (hM : rootcauselaw24_Record x0 = some r) : PCall Tryz.prog 26 [.agg (rootcauseref24_Rec.cs x0)] (.tup [.agg (RRec.cs r.1),.bool r.2]):=by
 unfold rootcauselaw24_Record at hM
 refine PCall.body Tryz.func26 Tryz.ntmps26 rfl rfl rfl rfl ?_
 refine a_seq (ar (.cons (o_box rfl rfl)<|.cons (o_alloc rfl)<|.cons (o_assign rfl)<|.nil _) ?_)
 refine a_seq ?_
 obtain ⟨v2,h1,hM⟩ := of_bind hM
 refine ar (.cons (o_fieldAddr rfl)<|.cons (o_load_s rfl rfl rfl)<|.cons (o_call (vclock_Of_c h1) rfl (DLeL.refl _) rfl)<|.cons (o_move rfl)<|.cons (o_extract rfl rfl)<|.cons (o_extract rfl rfl)<|.cons (o_alloc rfl)<|.cons (o_store rfl rfl rfl rfl rfl rfl rfl)<|.cons (o_assign rfl)<|.nil _) ?_
 refine a_seq (ar (.cons (o_fieldAddr rfl)<|.cons (o_load_s rfl rfl rfl)<|.cons (o_fieldAddr rfl)<|.cons (o_load_s rfl rfl rfl)<|.cons (o_load_r rfl rfl rfl rfl)<|.cons (o_fieldAddr rfl)<|.cons (o_load_s rfl rfl rfl)<|.cons (o_fieldAddr rfl)<|.cons (o_load_r rfl rfl rfl rfl)<|.cons (o_fieldAddr rfl)<|.cons (o_load_s rfl rfl rfl)<|.cons (o_build rfl rfl rfl)<|.cons (o_move rfl)<|.cons (o_int rfl rfl rfl)<|.cons (o_store rfl rfl rfl rfl rfl rfl rfl)<|.cons (o_assign rfl)<|.nil _) ?_)
 obtain rfl:=Option.some.inj hM
 exact a_ret (a_post (.r2 (.cell rfl rfl (.row _ CRow.h (Nat.le_of_ble_eq_true rfl) rfl)) (.tmp rfl)) (DLe.refl _) PostOk.nil.spec)
def rootcauselaw28_expect_K3 (x2 : Int) (v2 : (List rootcauseref24_Rec) × Int) (a7 : List RRec) : Option ((List RRec) × Int) :=
 chk (apOk 248 (List.length a7 + List.length [(RRec.mk x2 (IntKind.wrap .u64 (List.length v2.1 : Int)) (VClk.mk (arr 0 [0,0,0,0,0,0,0,0,0,0,0,0,0,0,0,0])) 3 (AEv.mk 0 0 0 0 0 0 0 0 []) 0)]))<|
 some ((a7++[(RRec.mk x2 (IntKind.wrap .u64 (List.length v2.1 : Int)) (VClk.mk (arr 0 [0,0,0,0,0,0,0,0,0,0,0,0,0,0,0,0])) 3 (AEv.mk 0 0 0 0 0 0 0 0 []) 0)]),0)
def rootcauselaw28_expect_K4 (x2 : Int) (v2 : (List rootcauseref24_Rec) × Int) (a13 : Int) (a14 : Int) (a15 : List RRec) (a16 : Bool) (a17 : Int) (a18 : Int) (a19 : Int) : Option ((List RRec) × Int) :=
 (ring_Ring_Records_a (ring_Ring.mk a13 a14 a15 a16 a17 a18 a19)).bind fun v21=>
 rootcauselaw28_expect_K3 x2 v2 v21
def rootcauselaw28_expect_L5 (a6 : List RRec) (k22 : Nat) (a23 : Int) (a24 : Int) (a25 : List RRec) (a26 : Bool) (a27 : Int) (a28 : Int) (a29 : Int) : Option (Ctl (Int × Int × (List RRec) × Bool × Int × Int × Int) ((List RRec) × Int)) :=
 (idx a6 (k22 : Int)).bind fun v34=>
 (ring_Ring_Put_a1 v34 (ring_Ring.mk a23 a24 a25 a26 a27 a28 a29)).bind fun v36=>
 if (v36.2.1 != 0) = true then
  some (.done (([] : List RRec),v36.2.1))
 else
  some (.next (v36.2.2.gcapacity,v36.2.2.gused,v36.2.2.glist,v36.2.2.gbegun,v36.2.2.gcomponent,v36.2.2.gfirst,v36.2.2.gnext))
def rootcauselaw28_expect_K2 (x2 : Int) (x3 : recorder_Config) (v2 : (List rootcauseref24_Rec) × Int) (a6 : List RRec) : Option ((List RRec) × Int) :=
 if (decide (0 < x3.gCapacity)) = true then
  (ring_New x3.gCapacity).bind fun v11=>
  match v11 with
  | .inl v11_0=>
   (forM' (E:=(List RRec) × Int) 9223372036854775807 (List.length a6 : Int) (fun k22 s=>rootcauselaw28_expect_L5 a6 k22 s.1 s.2.1 s.2.2.1 s.2.2.2.1 s.2.2.2.2.1 s.2.2.2.2.2.1 s.2.2.2.2.2.2) (v11_0.gcapacity,v11_0.gused,v11_0.glist,v11_0.gbegun,v11_0.gcomponent,v11_0.gfirst,v11_0.gnext)).bind fun
    | .next s=>rootcauselaw28_expect_K4 x2 v2 s.1 s.2.1 s.2.2.1 s.2.2.2.1 s.2.2.2.2.1 s.2.2.2.2.2.1 s.2.2.2.2.2.2
    | .done r=>some r
  | .inr v11_1=>
   some (([] : List RRec),1)
 else
  rootcauselaw28_expect_K3 x2 v2 a6
def rootcauselaw28_expect_L6 (a5 : List rootcauseref24_Rec) (k38 : Nat) (a39 : List RRec) : Option (List RRec) :=
 (idx a5 (k38 : Int)).bind fun v44=>
 (rootcauselaw24_Record v44).bind fun v46=>
 chk (apOk 248 (List.length a39 + List.length [v46.1]))<|
 some (a39++[v46.1])
def rootcauselaw28_expect_K1 (x2 : Int) (x3 : recorder_Config) (v2 : (List rootcauseref24_Rec) × Int) (a5 : List rootcauseref24_Rec) : Option ((List RRec) × Int) :=
 (foldM' 9223372036854775807 (List.length a5 : Int) (fun k38 s=>rootcauselaw28_expect_L6 a5 k38 s) ([] : List RRec)).bind fun s=>rootcauselaw28_expect_K2 x2 x3 v2 s
def rootcauselaw28_expect_K7 (x2 : Int) (x3 : recorder_Config) (v2 : (List rootcauseref24_Rec) × Int) (a49 : List RRec) : Option ((List RRec) × Int) :=
 (budget_Plan a49 x3.gBudget).bind fun v51=>
 if ((List.length v51.1 : Int) != (List.length a49 : Int)) = true then
  some (([] : List RRec),11)
 else
  (rootcauseref28_Dropped v2.1 v51.1).bind fun v54=>
  rootcauselaw28_expect_K1 x2 x3 v2 v54
def rootcauselaw28_expect_L8 (v2 : (List rootcauseref24_Rec) × Int) (k55 : Nat) (a56 : List RRec) : Option (List RRec) :=
 (idx v2.1 (k55 : Int)).bind fun v61=>
 (rootcauselaw24_Record v61).bind fun v63=>
 chk (apOk 248 (List.length a56 + List.length [v63.1]))<|
 some (a56++[v63.1])
def rootcauselaw28_expect (x0 : List AEv) (x1 : Int) (x2 : Int) (x3 : recorder_Config) : Option ((List RRec) × Int) :=
 (rootcauseref28_Record x0 x1 x2).bind fun v2=>
 if (v2.2 != 0) = true then
  some (([] : List RRec),v2.2)
 else
  if ((decide (x3.gCapacity < 0)) || (decide (x3.gBudget < 0))) = true then
   some (([] : List RRec),1)
  else
   if (decide (0 < x3.gBudget)) = true then
    (foldM' 9223372036854775807 (List.length v2.1 : Int) (fun k55 s=>rootcauselaw28_expect_L8 v2 k55 s) ([] : List RRec)).bind fun s=>rootcauselaw28_expect_K7 x2 x3 v2 s
   else
    rootcauselaw28_expect_K1 x2 x3 v2 v2.1
theorem rootcauselaw28_expect_c {x0 : List AEv} {x1 : Int} {x2 : Int} {x3 : recorder_Config} {r : (List RRec) × Int} (hM : rootcauselaw28_expect x0 x1 x2 x3 = some r) : PCall Tryz.prog 11 [.sl 9 (List.map AEv.dv x0),.int .i64 x1,.int .i64 x2,.agg (recorder_Config.cs x3)] (.tup [.sl 29 (List.map RRec.dv r.1),.int .i64 r.2]):=by
 unfold rootcauselaw28_expect at hM
 refine PCall.body Tryz.func11 Tryz.ntmps11 rfl rfl rfl rfl ?_
 refine a_seq (ar (.cons (o_box rfl rfl)<|.cons (o_assign rfl)<|.cons (o_assign rfl)<|.nil _) ?_)
 refine a_seq ?_
 obtain ⟨v2,h1,hM⟩ := of_bind hM
 refine ar (.cons (o_move rfl)<|.cons (o_move rfl)<|.cons (o_move rfl)<|.cons (o_call (rootcauseref28_Record_c h1) rfl (DLeL.refl _) rfl)<|.cons (o_move rfl)<|.cons (o_extract rfl rfl)<|.cons (o_extract rfl rfl)<|.cons (o_assign rfl)<|.cons (o_assign rfl)<|.nil _) ?_
 refine a_seq (a_seq (ar (.cons (o_move rfl)<|.cons (o_int rfl rfl rfl)<|.nil _) ?_))
 refine a_cond _ rfl (fun h3=>?_) (fun h3=>?_)
 ·replace hM:=(of_if hM).1 h3
  refine a_seq (ar (.cons (o_move rfl)<|.cons (o_assign rfl)<|.cons (o_assign rfl)<|.nil _) ?_)
  obtain rfl:=Option.some.inj hM
  exact a_ret (a_post (.r2 (.tmp rfl) (.tmp rfl)) (DLe.tup (.cons (DLe.nils _) (.cons (DLe.refl _) .nil))) PostOk.nil.spec)
 ·replace hM:=(of_if hM).2 h3
  refine a_skip (a_seq (a_seq (ar (.cons (o_fieldAddr rfl)<|.cons (o_load_s rfl rfl rfl)<|.cons (o_int rfl rfl rfl)<|.cons (o_move rfl)<|.cons (o_guardG .bF rfl rfl (fun hb=>(.keep .nil)) (fun hb=>o_fieldAddr rfl))<|.cons (o_guardG .bF rfl rfl (fun hb=>(.strip rfl hb .nil)) (fun hb=>o_load_s rfl rfl rfl))<|.cons (o_guardG .bF rfl rfl (fun hb=>(.strip rfl hb .nil)) (fun hb=>o_int rfl rfl rfl))<|.cons (o_or rfl rfl)<|.nil _) ?_)))
  refine a_cond _ rfl (fun h4=>?_) (fun h4=>?_)
  ·replace hM:=(of_if hM).1 h4
   refine a_seq (ar (.cons (o_assign rfl)<|.cons (o_assign rfl)<|.nil _) ?_)
   obtain rfl:=Option.some.inj hM
   exact a_ret (a_post (.r2 (.tmp rfl) (.tmp rfl)) (DLe.tup (.cons (DLe.nils _) (.cons (DLe.refl _) .nil))) PostOk.nil.spec)
  ·replace hM:=(of_if hM).2 h4
   refine a_skip (a_seq (ar (.cons (o_move rfl)<|.cons (t_len rfl)<|.cons (o_conv_w rfl)<|.cons (o_assign rfl)<|.nil _) ?_))
   refine a_cut (α:=(List rootcauseref24_Rec)) (fun s=>⟨[(2,.int .i64 x2),(7,.ref 7 0),(10,.sl 14 (List.map rootcauseref24_Rec.dv s)),(12,.int .u64 (IntKind.wrap .u64 (List.length v2.1 : Int)))],[(7,some (.blk 36 (recorder_Config.cs x3)))],[7]⟩) (fun s=>rootcauselaw28_expect_K1 x2 x3 v2 s = some r) ?_ ?_
   ·refine a_seq (ar (.cons (o_fieldAddr rfl)<|.cons (o_load_s rfl rfl rfl)<|.cons (o_int rfl rfl rfl)<|.nil _) ?_)
    refine a_cond _ rfl (fun h48=>?_) (fun h48=>?_)
    ·replace hM:=(of_if hM).1 h48
     refine a_seq (ar (.cons (o_assign rfl)<|.nil _) ?_)
     refine a_cut (α:=(List RRec)) (fun s=>⟨[(2,.int .i64 x2),(7,.ref 7 0),(10,.sl 14 (List.map rootcauseref24_Rec.dv v2.1)),(12,.int .u64 (IntKind.wrap .u64 (List.length v2.1 : Int))),(13,.sl 29 (List.map RRec.dv s))],[(7,some (.blk 36 (recorder_Config.cs x3)))],[7]⟩) (fun s=>rootcauselaw28_expect_K7 x2 x3 v2 s = some r) ?_ ?_
     ·refine a_seq (ar (.cons (o_move rfl)<|.cons (t_len rfl)<|.cons (o_move rfl)<|.nil _) ?_)
      obtain ⟨a56,hL57,hK57⟩ := of_bind hM
      refine a_block ?_
      refine a_fold (fun k55 (s : (List RRec))=>⟨[(2,.int .i64 x2),(7,.ref 7 0),(10,.sl 14 (List.map rootcauseref24_Rec.dv v2.1)),(12,.int .u64 (IntKind.wrap .u64 (List.length v2.1 : Int))),(13,.row 10005),(55,.sl 14 (List.map rootcauseref24_Rec.dv v2.1)),(56,.int .i64 (List.length v2.1 : Int)),(57,.int .i64 (k55 : Int))],[(7,some (.blk 36 (recorder_Config.cs x3))),(10005,some (.row 51 29 (List.map RRec.dv s)))],[7,10005]⟩) _ hL57 ((Imp.nilRow (t:=13) (id:=10006) 51 29 rfl rfl).trans (Imp.sh (fun i=>bif Nat.beq i 10005 then 10006 else i) rfl rfl rfl rfl rfl rfl)) ?_ ?_
      ·rintro k55 a56 t58 hk55 hx55 hM
       replace hM : rootcauselaw28_expect_L8 v2 k55 a56 = some t58:=hM
       unfold rootcauselaw28_expect_L8 at hM
       refine a_seq (ar (.cons (o_int rfl rfl rfl)<|.nil _) ?_)
       refine a_seq ?_
       refine a_cond _ rfl (fun _=>?_) (fun c=>absurd hk55 (of_decide_eq_false c))
       refine a_skip (a_seq (a_block (a_seq ?_)))
       obtain ⟨v61,h60,hM⟩ := of_bind hM
       refine ar (.cons (t_index h60 rfl rfl rfl)<|.cons (o_load_er rfl rfl rfl)<|.cons (o_alloc rfl)<|.cons (o_store rfl rfl rfl rfl rfl rfl rfl)<|.nil _) ?_
       refine a_seq ?_
       obtain ⟨v63,h62,hM⟩ := of_bind hM
       refine ar (.cons (o_load_r rfl rfl rfl rfl)<|.cons (o_call (rootcauselaw24_Record_c h62) rfl (DLeL.refl _) rfl)<|.cons (o_move rfl)<|.cons (o_extract rfl rfl)<|.cons (o_extract rfl rfl)<|.cons (o_alloc rfl)<|.cons (o_store rfl rfl rfl rfl rfl rfl rfl)<|.cons (o_assign rfl)<|.nil _) ?_
       obtain ⟨h64,hM⟩ := of_chk hM
       refine ar (.cons (o_move rfl)<|.cons (o_load_r rfl rfl rfl rfl)<|.cons (t_build RRec.dv ([v63.1] : List RRec) rfl rfl rfl rfl rfl rfl rfl)<|.cons (t_append [v63.1] h64 rfl rfl rfl (Src.row rfl))<|.cons (o_assign rfl)<|.nil _) ?_
       refine ar (.cons (o_add rfl rfl (inR_i64 hk55 hx55))<|.cons (o_move rfl)<|.nil _) ?_
       obtain rfl:=Option.some.inj hM
       exact (Imp.of (fun i=>bif Nat.beq i 10005 then 69 else i) (.cons rfl (DLe.refl _) (.cons rfl (DLe.refl _) (.cons rfl (DLe.refl _) (.cons rfl (DLe.refl _) (.cons rfl (DLe.refl _) (.cons rfl (DLe.refl _) (.cons rfl (DLe.refl _) (.cons rfl (DLe.succ _ _) .nil)))))))) (.cons rfl (.refl _) (.cons rfl (.refl _) .nil)) rfl rfl rfl)
      ·rintro k55 hk55 hx55
       refine a_seq (ar (.cons (o_int rfl rfl rfl)<|.nil _) ?_)
       refine a_seq ?_
       refine a_cond _ rfl (fun c=>absurd (of_decide_eq_true c) (Int.not_lt.2 hk55)) (fun _=>?_)
       refine a_exit ?_
       exact ⟨a56,hK57,((Imp.freeze (id:=10005) rfl).trans (Imp.sh (fun i=>i) rfl rfl rfl rfl rfl rfl))⟩
     ·rintro a49 hM
      replace hM : rootcauselaw28_expect_K7 x2 x3 v2 a49 = some r:=hM
      unfold rootcauselaw28_expect_K7 at hM
      refine a_seq ?_
      obtain ⟨v51,h50,hM⟩ := of_bind hM
      refine ar (.cons (o_move rfl)<|.cons (o_fieldAddr rfl)<|.cons (o_load_s rfl rfl rfl)<|.cons (o_call (budget_Plan_c h50) rfl (DLeL.refl _) rfl)<|.cons (o_move rfl)<|.cons (o_extract rfl rfl)<|.cons (o_extract rfl rfl)<|.cons (o_assign rfl)<|.cons (o_assign rfl)<|.nil _) ?_
      refine a_seq (a_seq (ar (.cons (o_move rfl)<|.cons (t_len rfl)<|.cons (o_move rfl)<|.cons (t_len rfl)<|.cons (o_int rfl rfl rfl)<|.nil _) ?_))
      refine a_cond _ rfl (fun h52=>?_) (fun h52=>?_)
      ·replace hM:=(of_if hM).1 h52
       refine a_seq (ar (.cons (o_assign rfl)<|.cons (o_assign rfl)<|.nil _) ?_)
       obtain rfl:=Option.some.inj hM
       exact a_ret (a_post (.r2 (.tmp rfl) (.tmp rfl)) (DLe.tup (.cons (DLe.nils _) (.cons (DLe.refl _) .nil))) PostOk.nil.spec)
      ·replace hM:=(of_if hM).2 h52
       refine a_skip ?_
       obtain ⟨v54,h53,hM⟩ := of_bind hM
       refine ar (.cons (o_move rfl)<|.cons (o_move rfl)<|.cons (o_call (rootcauseref28_Dropped_c h53) rfl (DLeL.refl _) rfl)<|.cons (o_assign rfl)<|.nil _) ?_
       exact ⟨v54,hM,(Imp.sh (fun i=>i) rfl rfl rfl rfl rfl rfl)⟩
    ·replace hM:=(of_if hM).2 h48
     refine a_skip ?_
     exact ⟨v2.1,hM,(Imp.sh (fun i=>i) rfl rfl rfl rfl rfl rfl)⟩
   ·rintro a5 hM
    replace hM : rootcauselaw28_expect_K1 x2 x3 v2 a5 = some r:=hM
    unfold rootcauselaw28_expect_K1 at hM
    refine a_seq (ar (.cons (o_assign rfl)<|.nil _) ?_)
    refine a_cut (α:=(List RRec)) (fun s=>⟨[(2,.int .i64 x2),(7,.ref 7 0),(12,.int .u64 (IntKind.wrap .u64 (List.length v2.1 : Int))),(20,.row 10001)],[(7,some (.blk 36 (recorder_Config.cs x3))),(10001,some (.row 51 29 (List.map RRec.dv s)))],[7,10001]⟩) (fun s=>rootcauselaw28_expect_K2 x2 x3 v2 s = some r) ?_ ?_
    ·refine a_seq (ar (.cons (o_move rfl)<|.cons (t_len rfl)<|.cons (o_move rfl)<|.nil _) ?_)
     obtain ⟨a39,hL40,hK40⟩ := of_bind hM
     refine a_block ?_
     refine a_fold (fun k38 (s : (List RRec))=>⟨[(2,.int .i64 x2),(7,.ref 7 0),(12,.int .u64 (IntKind.wrap .u64 (List.length v2.1 : Int))),(20,.row 10003),(86,.sl 14 (List.map rootcauseref24_Rec.dv a5)),(87,.int .i64 (List.length a5 : Int)),(88,.int .i64 (k38 : Int))],[(7,some (.blk 36 (recorder_Config.cs x3))),(10003,some (.row 51 29 (List.map RRec.dv s)))],[7,10003]⟩) _ hL40 ((Imp.nilRow (t:=20) (id:=10004) 51 29 rfl rfl).trans (Imp.sh (fun i=>bif Nat.beq i 10003 then 10004 else i) rfl rfl rfl rfl rfl rfl)) ?_ ?_
     ·rintro k38 a39 t41 hk38 hx38 hM
      replace hM : rootcauselaw28_expect_L6 a5 k38 a39 = some t41:=hM
      unfold rootcauselaw28_expect_L6 at hM
      refine a_seq (ar (.cons (o_int rfl rfl rfl)<|.nil _) ?_)
      refine a_seq ?_
      refine a_cond _ rfl (fun _=>?_) (fun c=>absurd hk38 (of_decide_eq_false c))
      refine a_skip (a_seq (a_block (a_seq ?_)))
      obtain ⟨v44,h43,hM⟩ := of_bind hM
      refine ar (.cons (t_index h43 rfl rfl rfl)<|.cons (o_load_er rfl rfl rfl)<|.cons (o_alloc rfl)<|.cons (o_store rfl rfl rfl rfl rfl rfl rfl)<|.nil _) ?_
      refine a_seq ?_
      obtain ⟨v46,h45,hM⟩ := of_bind hM
      refine ar (.cons (o_load_r rfl rfl rfl rfl)<|.cons (o_call (rootcauselaw24_Record_c h45) rfl (DLeL.refl _) rfl)<|.cons (o_move rfl)<|.cons (o_extract rfl rfl)<|.cons (o_extract rfl rfl)<|.cons (o_alloc rfl)<|.cons (o_store rfl rfl rfl rfl rfl rfl rfl)<|.cons (o_assign rfl)<|.nil _) ?_
      obtain ⟨h47,hM⟩ := of_chk hM
      refine ar (.cons (o_move rfl)<|.cons (o_load_r rfl rfl rfl rfl)<|.cons (t_build RRec.dv ([v46.1] : List RRec) rfl rfl rfl rfl rfl rfl rfl)<|.cons (t_append [v46.1] h47 rfl rfl rfl (Src.row rfl))<|.cons (o_assign rfl)<|.nil _) ?_
      refine ar (.cons (o_add rfl rfl (inR_i64 hk38 hx38))<|.cons (o_move rfl)<|.nil _) ?_
      obtain rfl:=Option.some.inj hM
      exact (Imp.of (fun i=>bif Nat.beq i 10003 then 100 else i) (.cons rfl (DLe.refl _) (.cons rfl (DLe.refl _) (.cons rfl (DLe.refl _) (.cons rfl (DLe.refl _) (.cons rfl (DLe.refl _) (.cons rfl (DLe.refl _) (.cons rfl (DLe.succ _ _) .nil))))))) (.cons rfl (.refl _) (.cons rfl (.refl _) .nil)) rfl rfl rfl)
     ·rintro k38 hk38 hx38
      refine a_seq (ar (.cons (o_int rfl rfl rfl)<|.nil _) ?_)
      refine a_seq ?_
      refine a_cond _ rfl (fun c=>absurd (of_decide_eq_true c) (Int.not_lt.2 hk38)) (fun _=>?_)
      refine a_exit ?_
      exact ⟨a39,hK40,(Imp.sh (fun i=>bif Nat.beq i 10001 then 10003 else i) rfl rfl rfl rfl rfl rfl)⟩
    ·rintro a6 hM
     replace hM : rootcauselaw28_expect_K2 x2 x3 v2 a6 = some r:=hM
     unfold rootcauselaw28_expect_K2 at hM
     refine a_cut (α:=(List RRec)) (fun s=>⟨[(2,.int .i64 x2),(12,.int .u64 (IntKind.wrap .u64 (List.length v2.1 : Int))),(20,.row 10002)],[(10002,some (.row 51 29 (List.map RRec.dv s)))],[10002]⟩) (fun s=>rootcauselaw28_expect_K3 x2 v2 s = some r) ?_ ?_
     ·refine a_seq (ar (.cons (o_fieldAddr rfl)<|.cons (o_load_s rfl rfl rfl)<|.cons (o_int rfl rfl rfl)<|.nil _) ?_)
      refine a_cond _ rfl (fun h9=>?_) (fun h9=>?_)
      ·replace hM:=(of_if hM).1 h9
       refine a_seq ?_
       obtain ⟨v11,h10,hM⟩ := of_bind hM
       rcases v11 with v11_0 | v11_1
       ·refine ar (.cons (o_fieldAddr rfl)<|.cons (o_load_s rfl rfl rfl)<|.cons (o_callN (fun i=>bif Nat.beq i 50001 then 10004 else bif Nat.beq i 50000 then 10003 else i) 2 (ring_New_c0 h10) rfl (DLeL.refl _) .nil rfl .nil)<|.cons (o_move rfl)<|.cons (o_extract rfl rfl)<|.cons (o_extract rfl rfl)<|.cons (o_assign rfl)<|.cons (o_assign rfl)<|.nil _) ?_
        refine a_seq (a_seq (ar (.cons (o_move rfl)<|.cons (o_int rfl rfl rfl)<|.nil _) ?_))
        refine a_cond _ rfl (fun c=>by cases c) (fun _=>?_)
        refine a_skip ?_
        refine a_cut (α:=Int × Int × (List RRec) × Bool × Int × Int × Int) (fun s=>⟨[(2,.int .i64 x2),(12,.int .u64 (IntKind.wrap .u64 (List.length v2.1 : Int))),(25,.ref 10003 0)],[(10003,some (.blk 131 [.int .i64 s.1,.int .i64 s.2.1,.row 10005,.bool s.2.2.2.1,.int .i64 s.2.2.2.2.1,.int .u64 s.2.2.2.2.2.1,.int .u64 s.2.2.2.2.2.2])),(10005,some (.sow 51 29 (List.map RRec.dv s.2.2.1)))],[10003,10005]⟩) (fun s=>rootcauselaw28_expect_K4 x2 v2 s.1 s.2.1 s.2.2.1 s.2.2.2.1 s.2.2.2.2.1 s.2.2.2.2.2.1 s.2.2.2.2.2.2 = some r) ?_ ?_
        ·refine a_seq (ar (.cons (o_move rfl)<|.cons (t_len_r rfl rfl)<|.cons (o_move rfl)<|.nil _) ?_)
         obtain ⟨t30,hL30,hK30⟩ := of_bind hM
         refine a_block ?_
         refine a_for (fun k22 (s : Int × Int × (List RRec) × Bool × Int × Int × Int)=>⟨[(2,.int .i64 x2),(12,.int .u64 (IntKind.wrap .u64 (List.length v2.1 : Int))),(25,.ref 10003 0),(114,.sl 29 (List.map RRec.dv a6)),(115,.int .i64 (List.length a6 : Int)),(116,.int .i64 (k22 : Int))],[(10003,some (.blk 131 [.int .i64 s.1,.int .i64 s.2.1,.row 10006,.bool s.2.2.2.1,.int .i64 s.2.2.2.2.1,.int .u64 s.2.2.2.2.2.1,.int .u64 s.2.2.2.2.2.2])),(10006,some (.sow 51 29 (List.map RRec.dv s.2.2.1)))],[10003,10006]⟩) _ hL30 ((Imp.freeze (id:=10001) rfl).trans (Imp.of (fun i=>bif Nat.beq i 10006 then 10004 else i) (.cons rfl (DLe.refl _) (.cons rfl (DLe.refl _) (.cons rfl (DLe.refl _) (.cons rfl (DLe.refl _) (.cons rfl (DLe.refl _) (.cons rfl (DLe.refl _) .nil)))))) (.cons rfl (.refl _) (.cons rfl .sow .nil)) rfl rfl rfl)) ?_ ?_
         ·rintro k22 ⟨a23,a24,a25,a26,a27,a28,a29⟩ t31 hk22 hx22 hM hE30
          replace hM : rootcauselaw28_expect_L5 a6 k22 a23 a24 a25 a26 a27 a28 a29 = some t31:=hM
          unfold rootcauselaw28_expect_L5 at hM
          refine a_seq (ar (.cons (o_int rfl rfl rfl)<|.nil _) ?_)
          refine a_seq ?_
          refine a_cond _ rfl (fun _=>?_) (fun c=>absurd hk22 (of_decide_eq_false c))
          refine a_skip (a_seq (a_block (a_seq ?_)))
          obtain ⟨v34,h33,hM⟩ := of_bind hM
          refine ar (.cons (t_index h33 rfl rfl rfl)<|.cons (o_load_er rfl rfl rfl)<|.cons (o_alloc rfl)<|.cons (o_store rfl rfl rfl rfl rfl rfl rfl)<|.nil _) ?_
          refine a_seq ?_
          obtain ⟨v36,h35,hM⟩ := of_bind hM
          refine ar (.cons (o_move rfl)<|.cons (o_load_r rfl rfl rfl rfl)<|.cons (o_callN (fun i=>bif Nat.beq i 50000 then 10007 else bif Nat.beq i 100000 then 10003 else bif Nat.beq i 100001 then 10006 else i) 3 (ring_Ring_Put_a1_c h35) rfl (DLeL.refl _) (.cons rfl (.cons rfl .nil)) rfl .nil)<|.cons (o_move rfl)<|.cons (o_extract rfl rfl)<|.cons (o_extract rfl rfl)<|.cons (o_assign rfl)<|.cons (o_assign rfl)<|.nil _) ?_
          refine a_seq (ar (.cons (o_move rfl)<|.cons (o_int rfl rfl rfl)<|.nil _) ?_)
          refine a_cond _ rfl (fun h37=>?_) (fun h37=>?_)
          ·replace hM:=(of_if hM).1 h37
           refine a_seq (ar (.cons (o_move rfl)<|.cons (o_assign rfl)<|.cons (o_assign rfl)<|.nil _) ?_)
           obtain rfl:=Option.some.inj hM
           obtain rfl:=hE30 _ rfl
           obtain rfl:=Option.some.inj hK30
           exact a_ret (a_post (.r2 (.tmp rfl) (.tmp rfl)) (DLe.tup (.cons (DLe.nils _) (.cons (DLe.refl _) .nil))) PostOk.nil.spec)
          ·replace hM:=(of_if hM).2 h37
           refine a_skip (ar (.cons (o_add rfl rfl (inR_i64 hk22 hx22))<|.cons (o_move rfl)<|.nil _) ?_)
           obtain rfl:=Option.some.inj hM
           exact ⟨(v36.2.2.gcapacity,v36.2.2.gused,v36.2.2.glist,v36.2.2.gbegun,v36.2.2.gcomponent,v36.2.2.gfirst,v36.2.2.gnext),rfl,(Imp.of (fun i=>bif Nat.beq i 10006 then 10007 else i) (.cons rfl (DLe.refl _) (.cons rfl (DLe.refl _) (.cons rfl (DLe.refl _) (.cons rfl (DLe.refl _) (.cons rfl (DLe.refl _) (.cons rfl (DLe.succ _ _) .nil)))))) (.cons rfl (.refl _) (.cons rfl (.refl _) .nil)) rfl rfl rfl)⟩
         ·rintro k22 ⟨a23,a24,a25,a26,a27,a28,a29⟩ hk22 hx22 rfl
          refine a_seq (ar (.cons (o_int rfl rfl rfl)<|.nil _) ?_)
          refine a_seq ?_
          refine a_cond _ rfl (fun c=>absurd (of_decide_eq_true c) (Int.not_lt.2 hk22)) (fun _=>?_)
          refine a_exit ?_
          exact ⟨(a23,a24,a25,a26,a27,a28,a29),hK30,(Imp.sh (fun i=>bif Nat.beq i 10005 then 10006 else i) rfl rfl rfl rfl rfl rfl)⟩
        ·rintro ⟨a13,a14,a15,a16,a17,a18,a19⟩ hM
         replace hM : rootcauselaw28_expect_K4 x2 v2 a13 a14 a15 a16 a17 a18 a19 = some r:=hM
         unfold rootcauselaw28_expect_K4 at hM
         obtain ⟨v21,h20,hM⟩ := of_bind hM
         refine ar (.cons (o_move rfl)<|.cons (o_callN (fun i=>bif Nat.beq i 50000 then 131 else bif Nat.beq i 100000 then 10003 else bif Nat.beq i 100001 then 10005 else i) 1 (ring_Ring_Records_a_c h20) rfl (DLeL.refl _) (.cons rfl (.cons rfl .nil)) rfl (.cons rfl (.cons rfl .nil)))<|.cons (o_assign rfl)<|.nil _) ?_
         exact ⟨v21,hM,(Imp.sh (fun i=>bif Nat.beq i 10002 then 131 else i) rfl rfl rfl rfl rfl rfl)⟩
       ·refine ar (.cons (o_fieldAddr rfl)<|.cons (o_load_s rfl rfl rfl)<|.cons (o_callN (fun i=>i) 0 (ring_New_c1 h10) rfl (DLeL.refl _) .nil rfl .nil)<|.cons (o_move rfl)<|.cons (o_extract rfl rfl)<|.cons (o_extract rfl rfl)<|.cons (o_assign rfl)<|.cons (o_assign rfl)<|.nil _) ?_
        refine a_seq (a_seq (ar (.cons (o_move rfl)<|.cons (o_int rfl rfl rfl)<|.nil _) ?_))
        refine a_cond _ rfl (fun _=>?_) (fun c=>by cases c)
        refine a_seq (ar (.cons (o_move rfl)<|.cons (o_assign rfl)<|.cons (o_assign rfl)<|.nil _) ?_)
        obtain rfl:=Option.some.inj hM
        exact a_ret (a_post (.r2 (.tmp rfl) (.tmp rfl)) (DLe.tup (.cons (DLe.nils _) (.cons (DLe.refl _) .nil))) PostOk.nil.spec)
      ·replace hM:=(of_if hM).2 h9
       refine a_skip ?_
       exact ⟨a6,hM,(Imp.sh (fun i=>bif Nat.beq i 10002 then 10001 else i) rfl rfl rfl rfl rfl rfl)⟩
     ·rintro a7 hM
      replace hM : rootcauselaw28_expect_K3 x2 v2 a7 = some r:=hM
      unfold rootcauselaw28_expect_K3 at hM
      refine a_seq ?_
      obtain ⟨h8,hM⟩ := of_chk hM
      refine ar (.cons (o_move rfl)<|.cons (o_move rfl)<|.cons (o_move rfl)<|.cons (o_build rfl rfl rfl)<|.cons (t_buildW RRec.dv ([(RRec.mk x2 (IntKind.wrap .u64 (List.length v2.1 : Int)) (VClk.mk (arr 0 [0,0,0,0,0,0,0,0,0,0,0,0,0,0,0,0])) 3 (AEv.mk 0 0 0 0 0 0 0 0 []) 0)] : List RRec) rfl rfl rfl rfl rfl rfl (.cons (DLe.agg (.cons (DLe.refl _) (.cons (DLe.refl _) (.cons (DLe.refl _) (.cons (DLe.refl _) (.cons (DLe.refl _) (.cons (DLe.refl _) (.cons (DLe.refl _) (.cons (DLe.refl _) (.cons (DLe.refl _) (.cons (DLe.refl _) (.cons (DLe.refl _) (.cons (DLe.refl _) (.cons (DLe.refl _) (.cons (DLe.refl _) (.cons (DLe.refl _) (.cons (DLe.refl _) (.cons (DLe.refl _) (.cons (DLe.refl _) (.cons (DLe.refl _) (.cons (DLe.refl _) (.cons (DLe.refl _) (.cons (DLe.refl _) (.cons (DLe.refl _) (.cons (DLe.refl _) (.cons (DLe.refl _) (.cons (DLe.refl _) (.cons (DLe.refl _) (.cons (DLe.nils _) (.cons (DLe.refl _) .nil)))))))))))))))))))))))))))))) .nil))<|.cons (t_append [(RRec.mk x2 (IntKind.wrap .u64 (List.length v2.1 : Int)) (VClk.mk (arr 0 [0,0,0,0,0,0,0,0,0,0,0,0,0,0,0,0])) 3 (AEv.mk 0 0 0 0 0 0 0 0 []) 0)] h8 rfl rfl rfl (Src.row rfl))<|.cons (o_assign rfl)<|.cons (o_assign rfl)<|.nil _) ?_
      obtain rfl:=Option.some.inj hM
      refine a_imp (Imp.freeze (id:=137) rfl) ?_
      exact a_ret (a_post (.r2 (.tmp rfl) (.tmp rfl)) (DLe.refl _) PostOk.nil.spec)
def slices_Equal_byte_byte_K1 : Option Bool :=
 some true
def slices_Equal_byte_byte_L2 (x0 : List Int) (x1 : List Int) (k2 : Nat) : Option (Ctl Unit Bool) :=
 (idx x0 (k2 : Int)).bind fun v7=>
 (idx x1 (k2 : Int)).bind fun v9=>
 if (v7 != v9) = true then
  some (.done false)
 else
  some (.next ())
def slices_Equal_byte_byte (x0 : List Int) (x1 : List Int) : Option Bool :=
 if ((List.length x0 : Int) != (List.length x1 : Int)) = true then
  some false
 else
  (forM' (E:=Bool) 9223372036854775807 (List.length x0 : Int) (fun k2 s=>slices_Equal_byte_byte_L2 x0 x1 k2) ()).bind fun
   | .next s=>slices_Equal_byte_byte_K1
   | .done r=>some r
theorem slices_Equal_byte_byte_c {x0 : List Int} {x1 : List Int} {r : Bool} (hM : slices_Equal_byte_byte x0 x1 = some r) : PCall Tryz.prog 14 [.sl 1 (List.map (DV.int .u8) x0),.sl 1 (List.map (DV.int .u8) x1)] (.bool r):=by
 unfold slices_Equal_byte_byte at hM
 refine PCall.body Tryz.func14 Tryz.ntmps14 rfl rfl rfl rfl ?_
 refine a_seq (ar (.cons (o_assign rfl)<|.nil _) ?_)
 refine a_seq (a_seq (ar (.cons (o_move rfl)<|.cons (t_len rfl)<|.cons (o_move rfl)<|.cons (t_len rfl)<|.cons (o_int rfl rfl rfl)<|.nil _) ?_))
 refine a_cond _ rfl (fun h1=>?_) (fun h1=>?_)
 ·replace hM:=(of_if hM).1 h1
  refine a_seq (ar (.cons (o_assign rfl)<|.nil _) ?_)
  obtain rfl:=Option.some.inj hM
  exact a_ret (a_post (.r1 (.tmp rfl)) (DLe.refl _) PostOk.nil.spec)
 ·replace hM:=(of_if hM).2 h1
  refine a_skip ?_
  refine a_cut (α:=Unit) (fun s=>⟨[],[],[]⟩) (fun s=>slices_Equal_byte_byte_K1 = some r) ?_ ?_
  ·refine a_seq (ar (.cons (o_move rfl)<|.cons (t_len rfl)<|.cons (o_move rfl)<|.nil _) ?_)
   obtain ⟨t3,hL3,hK3⟩ := of_bind hM
   refine a_block ?_
   refine a_for (fun k2 (s : Unit)=>⟨[(0,.sl 1 (List.map (DV.int .u8) x0)),(1,.sl 1 (List.map (DV.int .u8) x1)),(12,.int .i64 (List.length x0 : Int)),(13,.int .i64 (k2 : Int))],[],[]⟩) _ hL3 (Imp.sh (fun i=>i) rfl rfl rfl rfl rfl rfl) ?_ ?_
   ·rintro k2 _ t4 hk2 hx2 hM hE3
    replace hM : slices_Equal_byte_byte_L2 x0 x1 k2 = some t4:=hM
    unfold slices_Equal_byte_byte_L2 at hM
    refine a_seq (ar (.cons (o_int rfl rfl rfl)<|.nil _) ?_)
    refine a_seq ?_
    refine a_cond _ rfl (fun _=>?_) (fun c=>absurd hk2 (of_decide_eq_false c))
    refine a_skip (a_seq (a_block (a_seq (ar (.cons (o_move rfl)<|.cons (o_assign rfl)<|.nil _) ?_))))
    refine a_seq ?_
    obtain ⟨v7,h6,hM⟩ := of_bind hM
    obtain ⟨v9,h8,hM⟩ := of_bind hM
    refine ad mixed (.cons (o_move rfl)<|.cons (o_move rfl)<|.cons (t_index h6 rfl rfl rfl)<|.cons (o_load_es rfl rfl)<|.cons (o_move rfl)<|.cons (o_move rfl)<|.cons (t_index h8 rfl rfl rfl)<|.cons (o_load_es rfl rfl)<|.cons (o_int rfl rfl rfl)<|.nil _) ?_
    refine a_cond _ rfl (fun h10=>?_) (fun h10=>?_)
    ·replace hM:=(of_if hM).1 h10
     refine a_seq (ar (.cons (o_assign rfl)<|.nil _) ?_)
     obtain rfl:=Option.some.inj hM
     obtain rfl:=hE3 _ rfl
     obtain rfl:=Option.some.inj hK3
     exact a_ret (a_post (.r1 (.tmp rfl)) (DLe.refl _) PostOk.nil.spec)
    ·replace hM:=(of_if hM).2 h10
     refine a_skip (ar (.cons (o_add rfl rfl (inR_i64 hk2 hx2))<|.cons (o_move rfl)<|.nil _) ?_)
     obtain rfl:=Option.some.inj hM
     exact ⟨(),rfl,(Imp.of (fun i=>i) (.cons rfl (DLe.refl _) (.cons rfl (DLe.refl _) (.cons rfl (DLe.refl _) (.cons rfl (DLe.succ _ _) .nil)))) .nil rfl rfl rfl)⟩
   ·rintro k2 _ hk2 hx2 rfl
    refine a_seq (ar (.cons (o_int rfl rfl rfl)<|.nil _) ?_)
    refine a_seq ?_
    refine a_cond _ rfl (fun c=>absurd (of_decide_eq_true c) (Int.not_lt.2 hk2)) (fun _=>?_)
    refine a_exit ?_
    exact ⟨(),hK3,(Imp.sh (fun i=>i) rfl rfl rfl rfl rfl rfl)⟩
  ·rintro _ hM
   replace hM : slices_Equal_byte_byte_K1 = some r:=hM
   unfold slices_Equal_byte_byte_K1 at hM
   refine a_seq (ar (.cons (o_assign rfl)<|.nil _) ?_)
   obtain rfl:=Option.some.inj hM
   exact a_ret (a_post (.r1 (.tmp rfl)) (DLe.refl _) PostOk.nil.spec)
def rootcauselaw28_RecorderWrites_K1 (v7 : (List Int) × Int) (a11 : List Int) : Option Bool :=
 (gb (v7.2 == 0) (false) (slices_Equal_byte_byte v7.1 a11)).bind fun v13=>
 some ((v7.2 == 0) && v13)
def rootcauselaw28_RecorderWrites_L2 (v9 : (List RRec) × Int) (k14 : Nat) (a15 : List Int) : Option (Ctl (List Int) Bool) :=
 (idx v9.1 (k14 : Int)).bind fun v20=>
 (RRec_Bytes v20).bind fun v22=>
 (frame_Append a15 v22).bind fun v24=>
 if (v24.2 != 0) = true then
  some (.done false)
 else
  some (.next v24.1)
def rootcauselaw28_RecorderWrites (x0 : List AEv) (x1 : Nat→Int) (x2 : recorder_Config) : Option Bool :=
 (rootcauselaw28_awake).bind fun v2=>
 if (!v2) = true then
  some false
 else
  (rootcauselaw28_few x0 20).bind fun v5=>
  (recorder_Write v5 (x1 0) (x1 1) x2).bind fun v7=>
  (rootcauselaw28_expect v5 (x1 0) (x1 1) x2).bind fun v9=>
  if (v9.2 != 0) = true then
   some ((v7.2 == v9.2) && ((List.length v7.1 : Int) == 0))
  else
   (forM' (E:=Bool) 9223372036854775807 (List.length v9.1 : Int) (fun k14 s=>rootcauselaw28_RecorderWrites_L2 v9 k14 s) ([] : List Int)).bind fun
    | .next s=>rootcauselaw28_RecorderWrites_K1 v7 s
    | .done r=>some r
theorem rootcauselaw28_RecorderWrites_c {x0 : List AEv} {x1 : Nat→Int} {x2 : recorder_Config} {r : Bool} (hM : rootcauselaw28_RecorderWrites x0 x1 x2 = some r) : PCall Tryz.prog 4 [.sl 9 (List.map AEv.dv x0),.agg (array_2_int.cs x1),.agg (recorder_Config.cs x2)] (.bool r):=by
 unfold rootcauselaw28_RecorderWrites at hM
 refine PCall.body Tryz.func4 Tryz.ntmps4 rfl rfl rfl rfl ?_
 refine a_seq (ar (.cons (o_box rfl rfl)<|.cons (o_box rfl rfl)<|.cons (o_assign rfl)<|.nil _) ?_)
 refine a_seq (a_seq ?_)
 obtain ⟨v2,h1,hM⟩ := of_bind hM
 refine ar (.cons (o_call (rootcauselaw28_awake_c h1) rfl (DLeL.refl _) rfl)<|.cons (o_not rfl)<|.nil _) ?_
 refine a_cond _ rfl (fun h3=>?_) (fun h3=>?_)
 ·replace hM:=(of_if hM).1 h3
  refine a_seq (ar (.cons (o_assign rfl)<|.nil _) ?_)
  obtain rfl:=Option.some.inj hM
  exact a_ret (a_post (.r1 (.tmp rfl)) (DLe.refl _) PostOk.nil.spec)
 ·replace hM:=(of_if hM).2 h3
  refine a_skip (a_seq ?_)
  obtain ⟨v5,h4,hM⟩ := of_bind hM
  refine ar (.cons (o_move rfl)<|.cons (o_call (rootcauselaw28_few_c h4) rfl (DLeL.refl _) rfl)<|.cons (o_assign rfl)<|.nil _) ?_
  refine a_seq ?_
  obtain ⟨v7,h6,hM⟩ := of_bind hM
  refine ar (.cons (o_move rfl)<|.cons (o_indexAddr_a 0 rfl rfl rfl (by decide))<|.cons (o_load_s rfl rfl rfl)<|.cons (o_indexAddr_a 1 rfl rfl rfl (by decide))<|.cons (o_load_s rfl rfl rfl)<|.cons (o_load_r rfl rfl rfl rfl)<|.cons (o_call (recorder_Write_c h6) rfl (DLeL.refl _) rfl)<|.cons (o_move rfl)<|.cons (o_extract rfl rfl)<|.cons (o_extract rfl rfl)<|.cons (o_assign rfl)<|.cons (o_assign rfl)<|.nil _) ?_
  refine a_seq ?_
  obtain ⟨v9,h8,hM⟩ := of_bind hM
  refine ar (.cons (o_move rfl)<|.cons (o_indexAddr_a 0 rfl rfl rfl (by decide))<|.cons (o_load_s rfl rfl rfl)<|.cons (o_indexAddr_a 1 rfl rfl rfl (by decide))<|.cons (o_load_s rfl rfl rfl)<|.cons (o_load_r rfl rfl rfl rfl)<|.cons (o_call (rootcauselaw28_expect_c h8) rfl (DLeL.refl _) rfl)<|.cons (o_move rfl)<|.cons (o_extract rfl rfl)<|.cons (o_extract rfl rfl)<|.cons (o_assign rfl)<|.cons (o_assign rfl)<|.nil _) ?_
  refine a_seq (a_seq (ar (.cons (o_move rfl)<|.cons (o_int rfl rfl rfl)<|.nil _) ?_))
  refine a_cond _ rfl (fun h10=>?_) (fun h10=>?_)
  ·replace hM:=(of_if hM).1 h10
   refine a_seq (ar (.cons (o_move rfl)<|.cons (o_move rfl)<|.cons (o_int rfl rfl rfl)<|.cons (o_move rfl)<|.cons (o_guardG .bT rfl rfl (fun hb=>(.keep .nil)) (fun hb=>o_move rfl))<|.cons (o_guardG .bT rfl rfl (fun hb=>(.strip rfl hb .nil)) (fun hb=>t_len rfl))<|.cons (o_guardG .bT rfl rfl (fun hb=>(.strip rfl hb .nil)) (fun hb=>o_int rfl rfl rfl))<|.cons (o_and rfl rfl)<|.cons (o_assign rfl)<|.nil _) ?_)
   obtain rfl:=Option.some.inj hM
   exact a_ret (a_post (.r1 (.tmp rfl)) (DLe.refl _) PostOk.nil.spec)
  ·replace hM:=(of_if hM).2 h10
   refine a_skip (a_seq (ar (.cons (o_assign rfl)<|.nil _) ?_))
   refine a_cut (α:=(List Int)) (fun s=>⟨[(7,.sl 1 (List.map (DV.int .u8) v7.1)),(8,.int .i64 v7.2),(11,.sl 1 (List.map (DV.int .u8) s))],[],[]⟩) (fun s=>rootcauselaw28_RecorderWrites_K1 v7 s = some r) ?_ ?_
   ·refine a_seq (ar (.cons (o_move rfl)<|.cons (t_len rfl)<|.cons (o_move rfl)<|.nil _) ?_)
    obtain ⟨t16,hL16,hK16⟩ := of_bind hM
    refine a_block ?_
    refine a_for (fun k14 (s : (List Int))=>⟨[(7,.sl 1 (List.map (DV.int .u8) v7.1)),(8,.int .i64 v7.2),(11,.sl 1 (List.map (DV.int .u8) s)),(50,.sl 29 (List.map RRec.dv v9.1)),(51,.int .i64 (List.length v9.1 : Int)),(52,.int .i64 (k14 : Int))],[],[]⟩) _ hL16 (Imp.of (fun i=>i) (.cons rfl (DLe.refl _) (.cons rfl (DLe.refl _) (.cons rfl (DLe.nils _) (.cons rfl (DLe.refl _) (.cons rfl (DLe.refl _) (.cons rfl (DLe.refl _) .nil)))))) .nil rfl rfl rfl) ?_ ?_
    ·rintro k14 a15 t17 hk14 hx14 hM hE16
     replace hM : rootcauselaw28_RecorderWrites_L2 v9 k14 a15 = some t17:=hM
     unfold rootcauselaw28_RecorderWrites_L2 at hM
     refine a_seq (ar (.cons (o_int rfl rfl rfl)<|.nil _) ?_)
     refine a_seq ?_
     refine a_cond _ rfl (fun _=>?_) (fun c=>absurd hk14 (of_decide_eq_false c))
     refine a_skip (a_seq (a_block (a_seq ?_)))
     obtain ⟨v20,h19,hM⟩ := of_bind hM
     refine ar (.cons (t_index h19 rfl rfl rfl)<|.cons (o_load_er rfl rfl rfl)<|.cons (o_alloc rfl)<|.cons (o_store rfl rfl rfl rfl rfl rfl rfl)<|.nil _) ?_
     refine a_seq ?_
     obtain ⟨v22,h21,hM⟩ := of_bind hM
     obtain ⟨v24,h23,hM⟩ := of_bind hM
     refine ar (.cons (o_move rfl)<|.cons (o_load_r rfl rfl rfl rfl)<|.cons (o_call (RRec_Bytes_c h21) rfl (DLeL.refl _) rfl)<|.cons (o_callN (fun i=>bif Nat.beq i 50000 then 10001 else i) 1 (frame_Append_c h23) rfl (DLeL.refl _) .nil rfl .nil)<|.cons (o_move rfl)<|.cons (o_extract rfl rfl)<|.cons (o_extract rfl rfl)<|.cons (o_assign rfl)<|.cons (o_assign rfl)<|.nil _) ?_
     refine a_seq (a_seq (ar (.cons (o_move rfl)<|.cons (o_int rfl rfl rfl)<|.nil _) ?_))
     refine a_cond _ rfl (fun h25=>?_) (fun h25=>?_)
     ·replace hM:=(of_if hM).1 h25
      refine a_seq (ar (.cons (o_assign rfl)<|.nil _) ?_)
      obtain rfl:=Option.some.inj hM
      obtain rfl:=hE16 _ rfl
      obtain rfl:=Option.some.inj hK16
      exact a_ret (a_post (.r1 (.tmp rfl)) (DLe.refl _) PostOk.nil.spec)
     ·replace hM:=(of_if hM).2 h25
      refine a_skip (ar (.cons (o_move rfl)<|.cons (o_assign rfl)<|.nil _) ?_)
      refine ar (.cons (o_add rfl rfl (inR_i64 hk14 hx14))<|.cons (o_move rfl)<|.nil _) ?_
      obtain rfl:=Option.some.inj hM
      exact ⟨v24.1,rfl,((Imp.freeze (id:=10001) rfl).trans (Imp.of (fun i=>i) (.cons rfl (DLe.refl _) (.cons rfl (DLe.refl _) (.cons rfl (DLe.refl _) (.cons rfl (DLe.refl _) (.cons rfl (DLe.refl _) (.cons rfl (DLe.succ _ _) .nil)))))) .nil rfl rfl rfl))⟩
    ·rintro k14 a15 hk14 hx14 rfl
     refine a_seq (ar (.cons (o_int rfl rfl rfl)<|.nil _) ?_)
     refine a_seq ?_
     refine a_cond _ rfl (fun c=>absurd (of_decide_eq_true c) (Int.not_lt.2 hk14)) (fun _=>?_)
     refine a_exit ?_
     exact ⟨a15,hK16,(Imp.sh (fun i=>i) rfl rfl rfl rfl rfl rfl)⟩
   ·rintro a11 hM
    replace hM : rootcauselaw28_RecorderWrites_K1 v7 a11 = some r:=hM
    unfold rootcauselaw28_RecorderWrites_K1 at hM
    refine a_seq ?_
    obtain ⟨v13,h12,hM⟩ := of_bind hM
    refine ar (.cons (o_move rfl)<|.cons (o_int rfl rfl rfl)<|.cons (o_move rfl)<|.cons (o_guardG .bT rfl rfl (fun hb=>(.keep .nil)) (fun hb=>o_move rfl))<|.cons (o_guardG .bT rfl rfl (fun hb=>(.keep .nil)) (fun hb=>o_move rfl))<|.cons (o_guardG .bT rfl rfl (fun hb=>(.strip rfl hb (.strip rfl hb .nil))) (fun hb=>o_call (slices_Equal_byte_byte_c (of_gb h12 hb)) rfl (DLeL.refl _) rfl))<|.cons (o_and rfl rfl)<|.cons (o_assign rfl)<|.nil _) ?_
    obtain rfl:=Option.some.inj hM
    exact a_ret (a_post (.r1 (.tmp rfl)) (DLe.refl _) PostOk.nil.spec)
end Go.Proofs.YtifaebmmbpkclaaGreatDoor
namespace Go.Proofs.YtifaebmmbpkclaaGreatDoor
theorem forGo_two {S S' E E' : Type} {b : Nat→S→Option (Ctl S E)} {b' : Nat→S'→Option (Ctl S' E')} (R : Nat→S→S'→Prop) (D : E→E'→Prop) (N : Nat) (h : ∀ k s s',k < N→R k s s'→(∃ t t',b k s = some (.next t)∧b' k s' = some (.next t')∧R (k + 1) t t')∨(∃ e e',b k s = some (.done e)∧b' k s' = some (.done e')∧D e e')) :
  ∀ m k s s',m + k = N→R k s s'→(∃ t t',forGo b m k s = some (.next t)∧forGo b' m k s' = some (.next t')∧R N t t')∨(∃ e e',forGo b m k s = some (.done e)∧forGo b' m k s' = some (.done e')∧D e e')
 | 0,k,s,s',hk,hs=>by
  rw [Nat.zero_add] at hk
  subst hk
  exact .inl ⟨s,s',rfl,rfl,hs⟩
 | m + 1,k,s,s',hk,hs=>by
  rcases h k s s' (by omega) hs with ⟨t,t',h1,h2,h3⟩ | ⟨e,e',h1,h2,h3⟩
  ·have:=forGo_two R D N h m (k + 1) t t' (by omega) h3
   unfold forGo
   rw [h1,h2]
   exact this
  ·refine .inr ⟨e,e',?_,?_,h3⟩ <;> unfold forGo
   ·rw [h1]; rfl
   ·rw [h2]; rfl
theorem forM_two {S S' E E' : Type} {mx n n' : Int} {b : Nat→S→Option (Ctl S E)} {b' : Nat→S'→Option (Ctl S' E')} {s : S} {s' : S'} (R : Nat→S→S'→Prop) (D : E→E'→Prop) (N : Nat) (hn : n = (N : Int)) (hn' : n' = (N : Int)) (hx : (N : Int)≤mx) (h0 : R 0 s s')
  (h : ∀ k s s',k < N→R k s s'→(∃ t t',b k s = some (.next t)∧b' k s' = some (.next t')∧R (k + 1) t t')∨(∃ e e',b k s = some (.done e)∧b' k s' = some (.done e')∧D e e')) :
  (∃ t t',forM' mx n b s = some (.next t)∧forM' mx n' b' s' = some (.next t')∧R N t t')∨(∃ e e',forM' mx n b s = some (.done e)∧forM' mx n' b' s' = some (.done e')∧D e e'):=by
 subst hn; subst hn'
 unfold forM'
 rw [chk_pos hx,chk_pos hx,Int.toNat_natCast]
 exact forGo_two R D N h N 0 s s' (by omega) h0
theorem gb_some (b v : Bool) : gb b false (some v) = some (b && v):=by cases b <;> rfl
theorem valid_eq (c : Ck) (q : Int) (w : List Int) (e : AEv) (x2 : Int) : rootcauseref24_Valid (rootcauseref24_Rec.mk 1 x2 q 0 w e) = some (validB (reOf (RRec.mk x2 q c 1 e 0))):=by
 unfold rootcauseref24_Valid rootcauseref24_in
 simp only [Option.bind_some,gb_some]
 have hv : validB (reOf (RRec.mk x2 q c 1 e 0)) = ((evOk (evOf e) x2 && (0 : Int) == 0) && inB x2 8):=by
  unfold validB okWhat reOf
  simp
 rw [hv]
 unfold evOk inB evOf
 simp only [Bool.decide_and]
 have hl : (decide ((e.gArgs.length : Int)≤4)) = decide (e.gArgs.length≤4):=by
  rw [decide_eq_decide]; omega
 rw [hl]
 simp only [show ((0 : Int) == 0) = true from rfl,show ((1 : Int) == 1) = true from rfl]
 cases hA : decide (0≤x2) <;> cases hB : decide (x2≤8) <;> simp
def AEvR (e : AEv) : Prop:=InR .i64 e.gTick∧InR .i64 e.gComponent∧InR .u8 e.gKind∧InR .i64 e.gPeer∧InR .i64 e.gN∧InR .i64 e.gCopy∧InR .i64 e.gHandler∧InR .i64 e.gD∧∀ y∈e.gArgs,InR .i64 y
theorem fits_ev {e0 : AEv} (h : AEvR e0) {n : Nat} (hn : n≤5) : evFits ⟨e0.gTick,e0.gComponent,e0.gKind,e0.gPeer,e0.gN,e0.gCopy,e0.gHandler,e0.gD,e0.gArgs.take n⟩ = true:=by
 obtain ⟨h1,h2,h3,h4,h5,h6,h7,h8,h9⟩ := h
 unfold evFits
 simp only [Bool.and_eq_true,okI_iff,List.all_eq_true,decide_eq_true_eq]
 refine ⟨⟨⟨⟨⟨⟨⟨⟨⟨h1,h2⟩,h3⟩,h4⟩,h5⟩,h6⟩,h7⟩,h8⟩,fun x hx=>h9 x (List.mem_of_mem_take hx)⟩,by simp; omega⟩
structure SameR (a : RRec) (b : rootcauseref24_Rec) : Prop where
 ys : ∃ ys,VClk_Entries a.gClock = some ys∧rootcauseref24_Trim b.gClock = some ys∧ys.length≤16∧(0 < ys.length→ys[ys.length - 1]?≠some 0)
 what : a.gWhat = b.gWhat
 comp : a.gComponent = b.gComponent
 seq : a.gSeq = b.gSeq
 count : a.gCount = b.gCount
 ev : a.gEvent = b.gEvent
 args : a.gEvent.gArgs.length≤1000
 clk : a.gClock = ⟨clkOf b.gClock⟩
 cl16 : b.gClock.length≤16
theorem clocks_zero {l : List AEv} {n : Int} (h1 : 1≤n) (h2 : n≤8) (hc : ∀ e∈l,0≤e.gComponent∧e.gComponent≤n) {cs : List Ck} (c1 : cs.length = l.length) (c2 : ∀ j e,l[j]? = some e→cs[j]? = some (nextC l cs j e)) : ∀ j,j < l.length→∀ i,16≤i→(cs.getD j zc).gat i = 0:=by
 intro j
 induction j using Nat.strongRecOn with
 | ind j ih=>
  intro hj i hi
  have hx : l[j]? = some l[j]:=List.getElem?_eq_getElem hj
  have hcj:=hc l[j] (List.getElem_mem hj)
  generalize l[j] = e at hx hcj
  have hg : cs.getD j zc = nextC l cs j e:=by rw [List.getD_eq_getElem?_getD,c2 j e hx]; rfl
  rw [hg]
  show (if i = e.gComponent.toNat then _ else (mergeF (ckAt cs (befI l j)) (ckAt cs (sntI l j))).gat i) = 0
  rw [if_neg (by omega)]
  show (if i < 16 then _ else (ckAt cs (befI l j)).gat i) = 0
  rw [if_neg (by omega)]
  cases hb : befI l j with
  | none=>rfl
  | some k=>exact ih k (befI_lt hb) (by have:=befI_lt hb; omega) i hi
theorem records_two {l : List AEv} {x1 x2 : Int} (hl : l.length≤20) (hev : ∀ e∈l,evFits e = true∧e.gArgs.length≤5) (hx2 : InR .i64 x2) :
  ∃ r w,recorder_Record l x1 x2 = some r∧rootcauseref28_Record l x1 x2 = some w∧r.2 = w.2∧r.1.length = w.1.length∧r.1.length≤20∧(∀ (i : Nat) a b,r.1[i]? = some a→w.1[i]? = some b→SameR a b) ∧
   (r.2 = 0→∀ (i : Nat) a,r.1[i]? = some a→a.gWhat = 1∧a.gSeq = (i : Int)∧a.gComponent = x2∧a.gCount = 0∧reFits a = true∧validB (reOf a) = true):=by
 unfold recorder_Record rootcauseref28_Record
 by_cases hbad : x1 < 1∨8 < x1∨∃ e∈l,e.gComponent < 0∨x1 < e.gComponent
 ·obtain ⟨a1,a2⟩ := clocks_bad (n:=x1) (by omega) hbad
  rw [a1,a2]
  refine ⟨([],1),([],1),rfl,rfl,rfl,rfl,by simp,fun i a b h=>by simp at h,fun h=>by cases h⟩
 ·have h1 : 1≤x1:=by omega
  have h2 : x1≤8:=by omega
  have hc : ∀ e∈l,0≤e.gComponent∧e.gComponent≤x1:=fun e he=>by
   have : ¬ (e.gComponent < 0∨x1 < e.gComponent):=fun h=>hbad (.inr (.inr ⟨e,he,h⟩))
   omega
  obtain ⟨cs,c0,c1,c2,c3⟩ := clocks_ok (n:=x1) (by omega) h1 h2 hc
  obtain ⟨out,p1,I⟩ := past_ok (l:=l) (by omega)
  obtain ⟨ws,w1,w2,w3⟩ := refClocks_ok (n:=x1) (by omega) h1 h2 hc p1 I
  rw [c0,check_ok (by omega) h1 h2 hc]
  simp only [Option.bind_some]
  rw [if_neg (by simp)]
  by_cases hx : x2 < 0∨x1 < x2
  ·rw [if_pos (by simpa using hx),if_pos (by simpa using hx)]
   refine ⟨([],1),([],1),rfl,rfl,rfl,rfl,by simp,fun i a b h=>by simp at h,fun h=>by cases h⟩
  ·rw [if_neg (by simpa using hx),if_neg (by simpa using hx),w1]
   simp only [Option.bind_some]
   have key:=forM_two (S:=List RRec) (S' := List rootcauseref24_Rec) (E:=List RRec × Int) (E' := List rootcauseref24_Rec × Int) (mx:=9223372036854775807) (n:=(l.length : Int)) (n' := (l.length : Int)) (b:=fun k6 s=>recorder_Record_L2 l x2 (cs,0) k6 s) (b' := fun k7 s=>rootcauseref28_Record_L2 l x2 ws k7 s) (s:=[]) (s' := [])
    (fun k s s'=>s.length = s'.length∧s.length≤k∧(∀ (i : Nat) a b,s[i]? = some a→s'[i]? = some b→SameR a b)∧∀ (i : Nat) a,s[i]? = some a→a.gWhat = 1∧a.gSeq = (i : Int)∧a.gComponent = x2∧a.gCount = 0∧reFits a = true∧validB (reOf a) = true)
    (fun e e'=>e = ([],6)∧e' = ([],6)) l.length rfl rfl (by omega) ⟨rfl,Nat.le_refl _,fun i a b h=>by simp at h,fun i a h=>by simp at h⟩ (fun k s s' hk ⟨i1,i2,i3,i4⟩=>by
    have hx : l[k]? = some l[k]:=List.getElem?_eq_getElem hk
    have hcj:=c2 k _ hx
    have hwj:=w3 k hk
    have he:=hev l[k] (List.getElem_mem hk)
    generalize hcl : nextC l cs k l[k] = cl at hcj
    have hg : cs.getD k zc = cl:=by rw [List.getD_eq_getElem?_getD,hcj]; rfl
    have hcf:=c3 cl (List.mem_of_getElem? hcj)
    generalize l[k] = e at hx he hcl
    unfold recorder_Record_L2 rootcauseref28_Record_L2
    simp only [idx_nat,hx,hcj,hwj,Option.bind_some]
    by_cases hcm : (e.gComponent != x2) = true
    ·rw [if_pos hcm,if_pos hcm]
     exact .inl ⟨s,s',rfl,rfl,i1,by omega,i3,i4⟩
    ·rw [if_neg hcm,if_neg hcm]
     rw [chk_pos (by constructor <;> omega)]
     have hw : IntKind.wrap .u64 (s.length : Int) = (s.length : Int):=wrap_u64 (by omega) (by omega)
     have hw' : IntKind.wrap .u64 (s'.length : Int) = (s.length : Int):=by rw [← i1]; exact hw
     rw [hw,hw']
     have hfit : reFits (RRec.mk x2 (s.length : Int) cl 1 e 0) = true:=by
      unfold reFits ckFits
      simp only [Bool.and_eq_true,List.all_eq_true,okI_iff,List.mem_range]
      refine ⟨⟨⟨⟨⟨hx2,?_⟩,fun i hi=>?_⟩,?_⟩,he.1⟩,?_⟩
      ·exact ⟨by omega,by omega⟩
      ·have:=hcf i; exact ⟨by omega,by omega⟩
      ·exact ⟨by omega,by omega⟩
      ·exact ⟨by omega,by omega⟩
     have hck : record_Check (RRec.mk x2 (s.length : Int) cl 1 e 0) = some (checkN (reOf (RRec.mk x2 (s.length : Int) cl 1 e 0))):=chk_pos hfit
     rw [hck,valid_eq cl]
     simp only [Option.bind_some]
     cases hvb : validB (reOf (RRec.mk x2 (s.length : Int) cl 1 e 0)) with
     | false=>
      have : checkN (reOf (RRec.mk x2 (s.length : Int) cl 1 e 0)) = 1:=by unfold checkN; rw [hvb]; rfl
      rw [this,if_pos (by simp),if_pos (by simp)]
      exact .inr ⟨_,_,rfl,rfl,rfl,rfl⟩
     | true=>
      have : checkN (reOf (RRec.mk x2 (s.length : Int) cl 1 e 0)) = 0:=by unfold checkN; rw [hvb]; rfl
      rw [this,if_neg (by simp),if_neg (by simp),chk_pos (by constructor <;> simp <;> omega),chk_pos (by constructor <;> simp <;> omega)]
      refine .inl ⟨_,_,rfl,rfl,by simp [i1],by simp; omega,fun i a b ha hb=>?_,fun i a ha=>?_⟩
      ·by_cases hi : i < s.length
       ·rw [List.getElem?_append_left hi] at ha
        rw [List.getElem?_append_left (by omega)] at hb
        exact i3 i a b ha hb
       ·rw [List.getElem?_append_right (by omega)] at ha hb
        have : i - s.length = 0:=by
         have:=(List.getElem?_eq_some_iff.1 ha).1
         simp at this
         omega
        rw [this] at ha
        rw [← i1,this] at hb
        simp at ha hb
        subst ha; subst hb
        obtain ⟨ys,y1,y2,y3,y4⟩ := same_entries (c:=cl) (xs:=(List.range (x1.toNat + 1)).map fun (c : Nat)=>((pcnt (compOf l) (cell out) l.length k (c : Int) : Nat) : Int)) (by simp; omega) (fun i hi=>by
         have hi' : i < x1.toNat + 1:=by simpa using hi
         have:=clock_count h1 h2 hc c1 c2 c3 I hk (i:=i) (by omega)
         rw [hg] at this
         rw [this]
         simp [hi']) (fun i h3 h4=>by
         have h3' : x1.toNat + 1≤i:=by simpa using h3
         have:=clock_count h1 h2 hc c1 c2 c3 I hk (i:=i) h4
         rw [hg] at this
         rw [this,cnt_above hc _ _ (by omega)]
         rfl)
        refine ⟨⟨ys,y1,y2,y3,y4⟩,rfl,rfl,rfl,rfl,rfl,by simp only; omega,?_,by simp; omega⟩
        show cl = ⟨clkOf _⟩
        have hfun : cl.gat = clkOf ((List.range (x1.toNat + 1)).map fun (c : Nat)=>((pcnt (compOf l) (cell out) l.length k (c : Int) : Nat) : Int)):=by
         funext i
         unfold clkOf
         rw [List.getD_eq_getElem?_getD]
         by_cases h16 : i < 16
         ·have q:=clock_count h1 h2 hc c1 c2 c3 I hk (i:=i) h16
          rw [hg] at q
          by_cases hi : i < x1.toNat + 1
          ·rw [q]; simp [hi]
          ·rw [q,cnt_above hc _ _ (by omega)]; simp [hi]
         ·have q:=clocks_zero h1 h2 hc c1 c2 k hk i (by omega)
          rw [hg] at q
          rw [q]
          have : ¬ i < x1.toNat + 1:=by omega
          simp [this]
        cases cl
        simp only at hfun
        rw [hfun]
      ·by_cases hi : i < s.length
       ·rw [List.getElem?_append_left hi] at ha
        exact i4 i a ha
       ·rw [List.getElem?_append_right (by omega)] at ha
        have : i - s.length = 0:=by
         have:=(List.getElem?_eq_some_iff.1 ha).1
         simp at this
         omega
        rw [this] at ha
        simp at ha
        subst ha
        exact ⟨rfl,by simp only; omega,rfl,rfl,hfit,hvb⟩)
   rcases key with ⟨t,t',k1,k2,k3,k4,k5,k6⟩ | ⟨e,e',k1,k2,rfl,rfl⟩
   ·rw [k1,k2]
    exact ⟨(t,0),(t',0),rfl,rfl,rfl,k3,by show t.length≤20; omega,k5,fun _=>k6⟩
   ·rw [k1,k2]
    refine ⟨([],6),([],6),rfl,rfl,rfl,rfl,by simp,fun i a b h=>by simp at h,fun h=>by cases h⟩
theorem few_fits {x0 l : List AEv} (h0 : ∀ e∈x0,AEvR e) (h : ∀ e∈l,∃ e0∈x0,∃ n,n≤5∧e = ⟨e0.gTick,e0.gComponent,e0.gKind,e0.gPeer,e0.gN,e0.gCopy,e0.gHandler,e0.gD,e0.gArgs.take n⟩) : ∀ e∈l,evFits e = true∧e.gArgs.length≤5:=by
 intro e he
 obtain ⟨e0,h1,n,h2,rfl⟩ := h e he
 exact ⟨fits_ev (h0 e0 h1) h2,by simp; omega⟩
end Go.Proofs.YtifaebmmbpkclaaGreatDoor
set_option maxHeartbeats 2000000
namespace Go.Proofs.YtifaebmmbpkclaaGreatDoor
/-! classes -/
def ofc (e : AEv) : Int :=
 if e.gKind = 1∨e.gKind = 2∨e.gKind = 3∨e.gKind = 4∨e.gKind = 11 then 1
 else if e.gKind = 5∨e.gKind = 6 then 2
 else if e.gKind = 8∨e.gKind = 9 then 3
 else if e.gKind = 10 then (if e.gCopy = 1 then 1 else 3)
 else if e.gKind = 7 then 4 else 0
theorem of_eq (e : AEv) : budget_Of e = some (ofc e):=by
 unfold budget_Of budget_Of_K3 budget_Of_K6 budget_Of_K9 budget_Of_K1 ofc
 generalize e.gKind = k
 generalize e.gCopy = c
 by_cases h1 : k = 1 <;> by_cases h2 : k = 2 <;> by_cases h3 : k = 3 <;> by_cases h4 : k = 4 <;> by_cases h5 : k = 5 <;> by_cases h6 : k = 6 <;> by_cases h7 : k = 7 <;> by_cases h8 : k = 8 <;> by_cases h9 : k = 9 <;> by_cases h10 : k = 10 <;> by_cases h11 : k = 11 <;> first | (exfalso; omega; done) | (by_cases hc : c = 1 <;> simp [h1,h2,h3,h4,h5,h6,h7,h8,h9,h10,h11,hc])
theorem ofc_range (e : AEv) : 0≤ofc e∧ofc e≤4:=by
 unfold ofc
 repeat' split
 all_goals omega
/-! share -/
theorem and32 {x : Int} (h : 0≤x) (hx : x < 18446744073709551616) : bitI .and .u64 x 4294967295 = x % 4294967296:=by
 have:=and_mask (x:=x) 32 (by omega) h hx
 have e : ((2 : Int) ^ 32 - 1) = 4294967295:=by decide
 have e2 : ((2 : Int) ^ 32) = 4294967296:=by decide
 rw [e,e2] at this; exact this
theorem mul_small {x y : Int} (h0 : 0≤x) (h1 : x < 65536) (h2 : 0≤y) (h3 : y < 65536) : math_bits_Mul64 x y = some (0,x * y):=by
 have hp0 : 0≤x * y:=Int.mul_nonneg h0 h2
 have hp : x * y≤65535 * 65535:=Int.le_trans (Int.mul_le_mul_of_nonneg_right (show x≤65535 by omega) h2) (Int.mul_le_mul_of_nonneg_left (show y≤65535 by omega) (by omega))
 unfold math_bits_Mul64
 have e : (2 : Int) ^ min (Int.toNat 32) (IntKind.bits .u64) = 4294967296:=by decide
 rw [e,and32 h0 (by omega),and32 h2 (by omega),Int.fdiv_eq_ediv_of_nonneg _ (by omega),Int.fdiv_eq_ediv_of_nonneg _ (by omega)]
 have a1 : x / 4294967296 = 0:=by omega
 have a2 : y / 4294967296 = 0:=by omega
 have a3 : x % 4294967296 = x:=by omega
 have a4 : y % 4294967296 = y:=by omega
 rw [a1,a2,a3,a4,wrap_u64 hp0 (by omega)]
 simp only [Int.zero_mul,Int.mul_zero,Int.fdiv_eq_ediv_of_nonneg _ (show (0 : Int)≤4294967296 by omega)]
 have a5 : x * y / 4294967296 = 0:=by omega
 rw [a5]
 have w0 : IntKind.wrap .u64 0 = 0:=by decide
 simp only [w0,Int.add_zero,Int.zero_ediv]
 rw [and32 (by omega) (by omega)]
 simp only [Int.zero_emod,w0,Int.zero_ediv,Int.add_zero]
theorem div_small {x y : Int} (h0 : 0≤x) (h1 : x < 18446744073709551616) (h2 : 0 < y) : math_bits_Div64 0 x y = some (x / y,x % y):=by
 unfold math_bits_Div64 math_bits_Div64_K1 math_bits_Div64_K2
 have e1 : (y == 0) = false:=by simp; omega
 have e2 : decide (y≤0) = false:=by simp; omega
 rw [e1,e2]
 simp only [Bool.false_eq_true,if_false,beq_self_eq_true,if_true]
 have hd : x / y≤x:=Int.ediv_le_self _ h0
 have hd0 : 0≤x / y:=Int.ediv_nonneg h0 (by omega)
 rw [chk_pos ⟨h0,h2,by simp only [InR]; omega⟩,chk_pos ⟨h0,h2⟩]
theorem share_eq {i n m : Int} (hi : 0≤i) (hi2 : i < 65536) (hn : 0≤n) (hn2 : n < 65536) (hm : 0 < m) (hm2 : m < 65536) : budget_share i n m = some (i * n / m):=by
 have hp0 : 0≤i * n:=Int.mul_nonneg hi hn
 have hp : i * n≤65535 * 65535:=Int.le_trans (Int.mul_le_mul_of_nonneg_right (show i≤65535 by omega) hn) (Int.mul_le_mul_of_nonneg_left (show n≤65535 by omega) (by omega))
 unfold budget_share
 rw [wrap_u64 hi (by omega),wrap_u64 hn (by omega),wrap_u64 (by omega) (by omega),mul_small hi hi2 hn hn2,Option.bind_some,div_small hp0 (by omega) hm,Option.bind_some]
 have hd : i * n / m≤i * n:=Int.ediv_le_self _ hp0
 have hd0 : 0≤i * n / m:=Int.ediv_nonneg hp0 (by omega)
 rw [wrap_i64 (by omega) (by omega)]
/-! evenly spread numbers -/
def sp (n m i : Nat) : Nat:=i * n / m
def spr (n m : Nat) : List Int:=(List.range m).map fun i=>(sp n m i : Int)
theorem spr_len (n m : Nat) : (spr n m).length = m:=by simp [spr]
theorem sp_lt {n m i : Nat} (hi : i < m) (hn : 0 < n) : sp n m i < n:=by
 unfold sp
 rw [Nat.div_lt_iff_lt_mul (by omega),Nat.mul_comm n m]
 exact Nat.mul_lt_mul_of_pos_right hi hn
theorem sp_int (n m i : Nat) : ((i : Int) * (n : Int) / (m : Int)) = ((sp n m i : Nat) : Int):=by
 unfold sp; rw [Int.natCast_ediv,Int.natCast_mul]
theorem range_succ_map {α : Type} (k : Nat) (g : Nat→α) : (List.range (k + 1)).map g = (List.range k).map g++[g k]:=by
 rw [List.range_succ,List.map_append]; rfl
theorem spread_eq (n m : Int) (hn : n < 65536) : budget_Spread n m = some (spr n.toNat (min n.toNat m.toNat)):=by
 unfold budget_Spread
 by_cases h : n < 1∨m < 1
 ·have e : (decide (n < 1) || decide (m < 1)) = true:=by simp; exact h
  rw [e,if_pos rfl]
  have : min n.toNat m.toNat = 0:=by omega
  rw [this]; rfl
 ·have e : (decide (n < 1) || decide (m < 1)) = false:=by simp; omega
  rw [e,if_neg (by decide)]
  have hm : (if m < n then m else n) = ((min n.toNat m.toNat : Nat) : Int):=by split <;> omega
  obtain ⟨N,hN⟩ : ∃ N : Nat,n = (N : Int) := ⟨n.toNat,by omega⟩
  subst hN
  simp only [Int.toNat_natCast] at *
  generalize hM : min N m.toNat = M at *
  have hM1 : 0 < M:=by omega
  have hM2 : M≤N:=by omega
  rw [hm,chk_pos (by unfold mkOk; omega)]
  have : foldM' 9223372036854775807 (M : Int) (fun k5 s=>budget_Spread_L7 (N : Int) m k5 s) ([] : List Int) = some (spr N M):=by
   refine foldM_spec M (fun k=>(List.range k).map fun i=>(sp N M i : Int)) rfl rfl (by omega) (fun j hj=>?_)
   simp only [budget_Spread_L7,hm]
   rw [share_eq (by omega) (by omega) (by omega) (by omega) (by omega) (by omega),Option.bind_some,sp_int,chk_pos (by simp [apOk]; omega),range_succ_map]
  rw [this]; rfl
/-! sums over evenly spread entries -/
def psum (ss : List Int) (m k : Nat) : Int:=((List.range k).map fun i=>ss.getD (sp ss.length m i) 0).sum
def ssum (ss : List Int) (m : Nat) : Int:=psum ss m m
def Szs (ss : List Int) : Prop := ∀ s∈ss,1≤s∧s≤400
theorem psum_zero (ss : List Int) (m : Nat) : psum ss m 0 = 0:=rfl
theorem psum_succ (ss : List Int) (m k : Nat) : psum ss m (k + 1) = psum ss m k + ss.getD (sp ss.length m k) 0:=by
 unfold psum
 rw [range_succ_map,List.sum_append]; simp
theorem getD_range {ss : List Int} (hs : Szs ss) {i : Nat} (hi : i < ss.length) : 1≤ss.getD i 0∧ss.getD i 0≤400:=by
 rw [List.getD_eq_getElem?_getD,List.getElem?_eq_getElem hi]
 exact hs _ (List.getElem_mem hi)
theorem psum_le {ss : List Int} (hs : Szs ss) {m : Nat} (hm : m≤ss.length) : ∀ k,k≤m→(k : Int)≤psum ss m k∧psum ss m k≤400 * k
 | 0,_=>by rw [psum_zero]; omega
 | k + 1,h=>by
  have ih:=psum_le hs hm k (by omega)
  have:=getD_range hs (sp_lt (n:=ss.length) (m:=m) (i:=k) (by omega) (by omega))
  rw [psum_succ]; omega
theorem psum_mono {ss : List Int} (hs : Szs ss) {m : Nat} (hm : m≤ss.length) {k : Nat} : ∀ j,k + j≤m→psum ss m k≤psum ss m (k + j)
 | 0,_=>Int.le_refl _
 | j + 1,h=>by
  have ih:=psum_mono hs hm (k:=k) j (by omega)
  have:=getD_range hs (sp_lt (n:=ss.length) (m:=m) (i:=k + j) (by omega) (by omega))
  rw [← Nat.add_assoc,psum_succ]; omega
theorem ssum_range {ss : List Int} (hs : Szs ss) {m : Nat} (hm : m≤ss.length) : (m : Int)≤ssum ss m∧ssum ss m≤400 * m:=psum_le hs hm m (Nat.le_refl _)
def pickGo (ss : List Int) (left : Int) : Nat→Nat
 | 0=>0
 | m + 1=>if ssum ss (m + 1)≤left then m + 1 else pickGo ss left m
def pick (ss : List Int) (left : Int) : Nat:=pickGo ss left ss.length
theorem pickGo_le (ss : List Int) (left : Int) : ∀ m,pickGo ss left m≤m
 | 0=>Nat.le_refl _
 | m + 1=>by
  unfold pickGo
  split
  ·exact Nat.le_refl _
  ·exact Nat.le_succ_of_le (pickGo_le ss left m)
theorem pick_le (ss : List Int) (left : Int) : pick ss left≤ss.length:=pickGo_le _ _ _
theorem pickGo_fits (ss : List Int) {left : Int} (h : 0≤left) : ∀ m,ssum ss (pickGo ss left m)≤left
 | 0=>by unfold pickGo; exact h
 | m + 1=>by
  unfold pickGo
  split
  ·assumption
  ·exact pickGo_fits ss h m
theorem pick_fits (ss : List Int) {left : Int} (h : 0≤left) : ssum ss (pick ss left)≤left:=pickGo_fits ss h _
/-! most -/
theorem inner_eq {ss : List Int} (hs : Szs ss) (hl : ss.length < 65536) {m : Nat} (h0 : 0 < m) (hm : m≤ss.length) (left : Int) :
  ∃ e,whileM (E:=Int) (fun s=>budget_most_L12 ss left (m : Int) s.1 s.2) (0,0) = some e∧((ssum ss m≤left→e = ssum ss m)∧(left < ssum ss m→left < e)):=by
 refine whileM_ind (fun s=>∃ k : Nat,k≤m∧s = (psum ss m k,(k : Int))) (fun s=>m - s.2.toNat) _ ⟨0,by omega,rfl⟩ (by simp only []; omega) ?_
 rintro s ⟨k,hk,rfl⟩
 have hb:=psum_le hs hm k hk
 simp only [budget_most_L12]
 by_cases hc : (k : Int) < (m : Int)∧psum ss m k≤left
 ·left
  have e : (decide ((k : Int) < (m : Int)) && decide (psum ss m k≤left)) = true:=by simp; omega
  have hlt:=sp_lt (n:=ss.length) (m:=m) (i:=k) (by omega) (by omega)
  have hg:=getD_range hs hlt
  refine ⟨(psum ss m (k + 1),((k + 1 : Nat) : Int)),?_,⟨k + 1,by omega,rfl⟩,by simp only [Int.toNat_natCast]; omega⟩
  rw [e,if_pos rfl,share_eq (by omega) (by omega) (by omega) (by omega) (by omega) (by omega),Option.bind_some,sp_int]
  have hi : idx ss ((sp ss.length m k : Nat) : Int) = some (ss.getD (sp ss.length m k) 0):=by
   rw [idx_nat,List.getElem?_eq_getElem hlt,List.getD_eq_getElem?_getD,List.getElem?_eq_getElem hlt]; rfl
  rw [hi,Option.bind_some,psum_succ,wrap_i64 (by omega) (by omega),wrap_i64 (by omega) (by omega)]
  simp
 ·right
  have e : (decide ((k : Int) < (m : Int)) && decide (psum ss m k≤left)) = false:=by
   rw [Bool.and_eq_false_iff]; simp only [decide_eq_false_iff_not]; omega
  refine ⟨psum ss m k,by rw [e,if_neg (by decide)],?_⟩
  by_cases he : k = m
  ·subst he; exact ⟨fun _=>rfl,fun h=>h⟩
  ·have hmo:=psum_mono hs hm (k:=k) (m - k) (by omega)
   rw [show k + (m - k) = m by omega] at hmo
   unfold ssum
   exact ⟨fun h=>by omega,fun h=>by omega⟩
theorem most_eq {ss : List Int} (hs : Szs ss) (hl : ss.length < 65536) (left : Int) : budget_most ss left = some ((pick ss left : Int),ssum ss (pick ss left)):=by
 unfold budget_most
 obtain ⟨e,h1,h2⟩ := whileM_ind (step:=fun s=>budget_most_L3 ss left s) (s0:=(List.length ss : Int)) (fun s=>∃ m : Nat,m≤ss.length∧s = (m : Int)∧pick ss left = pickGo ss left m) (fun s=>s.toNat)
  (fun e=>(e = .inl ()∧pick ss left = 0)∨e = .inr ((pick ss left : Int),ssum ss (pick ss left))) ⟨ss.length,Nat.le_refl _,rfl,rfl⟩ (by simp only [Int.toNat_natCast]; omega) (by
  rintro s ⟨m,hm,rfl,hp⟩
  simp only [budget_most_L3]
  cases m with
  | zero=>
   right
   exact ⟨.inl (),by simp,.inl ⟨rfl,hp⟩⟩
  | succ m=>
   have e : decide ((0 : Int) < ((m + 1 : Nat) : Int)) = true:=decide_eq_true (by omega)
   rw [e,if_pos rfl]
   obtain ⟨x,k1,k2,k3⟩ := inner_eq hs hl (Nat.succ_pos m) hm left
   rw [k1,Option.bind_some]
   simp only [budget_most_K8,budget_most_K6]
   unfold pickGo at hp
   by_cases hc : ssum ss (m + 1)≤left
   ·right
    rw [if_pos hc] at hp
    have:=k2 hc
    subst this
    have e2 : decide (ssum ss (m + 1)≤left) = true:=by simp; exact hc
    rw [e2,if_pos rfl]
    exact ⟨_,rfl,.inr (by rw [hp])⟩
   ·left
    rw [if_neg hc] at hp
    have:=k3 (Int.not_le.1 hc)
    have e2 : decide (x≤left) = false:=by simp; exact this
    rw [e2,if_neg (by decide),wrap_i64 (by omega) (by omega),show ((m + 1 : Nat) : Int) - 1 = (m : Int) by omega]
    exact ⟨(m : Int),rfl,⟨m,by omega,rfl,hp⟩,by simp only [Int.toNat_natCast]; omega⟩)
 rw [h1]
 rcases h2 with ⟨rfl,hz⟩ | rfl
 ·rw [hz]; rfl
 ·rfl
def posN (cf : Nat→Int) (N : Nat) (c : Int) : List Nat:=(List.range N).filter fun i=>cf i == c
def szN (cf sf : Nat→Int) (N : Nat) (c : Int) : List Int:=(posN cf N c).map sf
def selP (ps : List Nat) (v j i : Nat) : Bool:=(List.range j).any fun t=>ps.getD (sp ps.length v t) 0 == i
def kp (cf : Nat→Int) (N : Nat) (m : Int→Nat) (i : Nat) : Bool:=decide (cf i < 0) || selP (posN cf N (cf i)) (m (cf i)) (m (cf i)) i
def keepL (cf : Nat→Int) (N : Nat) (m : Int→Nat) : List Bool:=(List.range N).map (kp cf N m)
def updm (m : Int→Nat) (c : Int) (v : Nat) : Int→Nat:=fun x=>if x = c then v else m x
def allo (cf sf : Nat→Int) (N : Nat) : List Int→(Int→Nat)→Int→Int→(Int→Nat) × Int
 | [],m,used,left=>(m,used)
 | c :: cs,m,used,left=>
  if pick (szN cf sf N c) left < (posN cf N c).length then (updm m c (pick (szN cf sf N c) left),used + ssum (szN cf sf N c) (pick (szN cf sf N c) left))
  else allo cf sf N cs (updm m c (pick (szN cf sf N c) left)) (used + ssum (szN cf sf N c) (pick (szN cf sf N c) left)) (left - ssum (szN cf sf N c) (pick (szN cf sf N c) left))
def usedN (cf sf : Nat→Int) (N : Nat) : Int:=((List.range N).map fun i=>if cf i < 0 then sf i else 0).sum
theorem posN_succ (cf : Nat→Int) (k : Nat) (c : Int) : posN cf (k + 1) c = if cf k = c then posN cf k c++[k] else posN cf k c:=by
 unfold posN
 rw [List.range_succ,List.filter_append]
 by_cases h : cf k = c <;> simp [h]
theorem szN_succ (cf sf : Nat→Int) (k : Nat) (c : Int) : szN cf sf (k + 1) c = if cf k = c then szN cf sf k c++[sf k] else szN cf sf k c:=by
 unfold szN
 rw [posN_succ]
 split <;> simp
theorem posN_len (cf : Nat→Int) (N : Nat) (c : Int) : (posN cf N c).length≤N:=by
 unfold posN
 exact Nat.le_trans (List.length_filter_le _ _) (by simp)
theorem szN_len (cf sf : Nat→Int) (N : Nat) (c : Int) : (szN cf sf N c).length = (posN cf N c).length:=by simp [szN]
theorem mem_posN {cf : Nat→Int} {N : Nat} {c : Int} {i : Nat} : i∈posN cf N c↔i < N∧cf i = c:=by simp [posN]
theorem usedN_succ (cf sf : Nat→Int) (k : Nat) : usedN cf sf (k + 1) = usedN cf sf k + (if cf k < 0 then sf k else 0):=by
 unfold usedN
 rw [range_succ_map,List.sum_append]; simp
theorem szN_szs {cf sf : Nat→Int} {N : Nat} (h : ∀ i,i < N→1≤sf i∧sf i≤400) (c : Int) : Szs (szN cf sf N c):=by
 intro s hs
 simp only [szN,List.mem_map] at hs
 obtain ⟨i,hi,rfl⟩ := hs
 exact h i (mem_posN.1 hi).1
theorem usedN_range {cf sf : Nat→Int} {N : Nat} (h : ∀ i,i < N→1≤sf i∧sf i≤400) : ∀ k,k≤N→0≤usedN cf sf k∧usedN cf sf k≤400 * k
 | 0,_=>by simp [usedN]
 | k + 1,hk=>by
  have ih:=usedN_range (cf:=cf) h k (by omega)
  have:=h k (by omega)
  rw [usedN_succ]
  split <;> omega
theorem set_range (N p : Nat) (g : Nat→Bool) : ((List.range N).map g).set p true = (List.range N).map fun i=>g i || (p == i):=by
 apply List.ext_getElem?
 intro i
 rw [List.getElem?_set,List.getElem?_map,List.getElem?_map,List.length_map,List.length_range]
 by_cases h : p = i
 ·subst h
  by_cases hp : p < N
  ·rw [if_pos rfl,if_pos hp,List.getElem?_range hp]; simp
  ·rw [if_pos rfl,if_neg hp,List.getElem?_eq_none (by simp; omega)]; rfl
 ·rw [if_neg h]
  have : (p == i) = false:=by simp [h]
  by_cases hi : i < N
  ·rw [List.getElem?_range hi]; simp [this]
  ·rw [List.getElem?_eq_none (by simp; omega)]; rfl
theorem selP_zero (ps : List Nat) (v i : Nat) : selP ps v 0 i = false:=rfl
theorem selP_succ (ps : List Nat) (v j i : Nat) : selP ps v (j + 1) i = (selP ps v j i || (ps.getD (sp ps.length v j) 0 == i)):=by
 unfold selP
 rw [List.range_succ,List.any_append]; simp
theorem spr_get {n v j : Nat} (h : j < v) : (spr n v)[j]? = some ((sp n v j : Nat) : Int):=by
 unfold spr
 rw [List.getElem?_map,List.getElem?_range h]; rfl
theorem mark_eq (P : List Nat) (N v : Nat) (hN : N < 65536) (hP : ∀ p∈P,p < N) (hv : v≤P.length) (hPl : P.length≤N) (g : Nat→Bool) :
  foldM' 9223372036854775807 (List.length (spr P.length v) : Int) (fun k s=>budget_Plan_L41 (P.map Int.ofNat) (spr P.length v) k s) ((List.range N).map g) = some ((List.range N).map fun i=>g i || selP P v v i):=by
 have e0 : (List.range N).map g = (List.range N).map fun i=>g i || selP P v 0 i:=by simp [selP_zero]
 rw [e0]
 refine foldM_spec v (fun j=>(List.range N).map fun i=>g i || selP P v j i) rfl (by rw [spr_len]) (by rw [spr_len]; omega) (fun j hj=>?_)
 have hlt:=sp_lt (n:=P.length) (m:=v) (i:=j) hj (by omega)
 have hp : P.getD (sp P.length v j) 0 < N:=by
  rw [List.getD_eq_getElem?_getD,List.getElem?_eq_getElem hlt]; exact hP _ (List.getElem_mem hlt)
 simp only [budget_Plan_L41]
 have i1 : idx (P.map Int.ofNat) ((sp P.length v j : Nat) : Int) = some ((P.getD (sp P.length v j) 0 : Nat) : Int):=by
  rw [idx_nat,List.getElem?_map,List.getElem?_eq_getElem hlt,List.getD_eq_getElem?_getD,List.getElem?_eq_getElem hlt]; rfl
 rw [idx_some (spr_get hj),Option.bind_some,i1,Option.bind_some]
 generalize hpe : P.getD (sp P.length v j) 0 = p at *
 have i2 : ∃ b,idx ((List.range N).map fun i=>g i || selP P v j i) ((p : Nat) : Int) = some b:=by
  rw [idx_nat,List.getElem?_map,List.getElem?_range hp]; exact ⟨_,rfl⟩
 obtain ⟨b,hb⟩ := i2
 rw [hb,Option.bind_some,Int.toNat_natCast,set_range]
 congr 2
 funext i
 rw [selP_succ,hpe,Bool.or_assoc]
theorem selP_mem {ps : List Nat} {v j i : Nat} (hv : v≤ps.length) (hj : j≤v) (h : selP ps v j i = true) : i∈ps:=by
 unfold selP at h
 rw [List.any_eq_true] at h
 obtain ⟨t,ht,he⟩ := h
 rw [List.mem_range] at ht
 have hlt:=sp_lt (n:=ps.length) (m:=v) (i:=t) (by omega) (by omega)
 rw [beq_iff_eq,List.getD_eq_getElem?_getD,List.getElem?_eq_getElem hlt] at he
 rw [← he]; exact List.getElem_mem hlt
theorem kp_upd {cf : Nat→Int} {N : Nat} {m : Int→Nat} {c : Int} {v : Nat} (hc : 0≤c) (hm : m c = 0) (hv : v≤(posN cf N c).length) (i : Nat) : (kp cf N m i || selP (posN cf N c) v v i) = kp cf N (updm m c v) i:=by
 unfold kp updm
 by_cases h : cf i = c
 ·rw [h,if_pos rfl,hm,selP_zero,Bool.or_false]
 ·rw [if_neg h]
  have : selP (posN cf N c) v v i = false:=by
   rw [Bool.eq_false_iff]
   intro hs
   exact h (mem_posN.1 (selP_mem hv (Nat.le_refl _) hs)).2
  rw [this,Bool.or_false]
def one (P S : List Int) (keep : List Bool) (used left : Int) : Option (Ctl (List Bool × Int × Int) (List Bool × Int)) :=
 (budget_most S left).bind fun v33=>
 (budget_Spread (List.length P : Int) v33.1).bind fun v38=>
 (foldM' 9223372036854775807 (List.length v38 : Int) (fun k39 s=>budget_Plan_L41 P v38 k39 s) keep).bind fun s=>budget_Plan_K35 P used left v33 s
theorem L22_eq (p0 p1 p2 p3 p4 s0 s1 s2 s3 s4 : List Int) (k : Nat) (keep : List Bool) (used left : Int) : budget_Plan_L22 p0 p1 p2 p3 p4 s0 s1 s2 s3 s4 k keep used left =
  (idx ([1,2,3,4,0] : List Int) (k : Int)).bind fun v=>
   if (v == 0) = true then one p0 s0 keep used left else if (v == 1) = true then one p1 s1 keep used left else if (v == 2) = true then one p2 s2 keep used left else if (v == 3) = true then one p3 s3 keep used left else if (v == 4) = true then one p4 s4 keep used left else none:=rfl
theorem one_eq {cf sf : Nat→Int} {N : Nat} (hN : N≤1000) (hs : ∀ i,i < N→1≤sf i∧sf i≤400) {m : Int→Nat} {c : Int} (hc : 0≤c) (hm : m c = 0) {used left : Int} (hu : 0≤used∧used≤4000000) (hl : 0≤left∧left≤9223372036854775807) :
  one ((posN cf N c).map Int.ofNat) (szN cf sf N c) (keepL cf N m) used left = some (if pick (szN cf sf N c) left < (posN cf N c).length then .done (keepL cf N (updm m c (pick (szN cf sf N c) left)),used + ssum (szN cf sf N c) (pick (szN cf sf N c) left))
   else .next (keepL cf N (updm m c (pick (szN cf sf N c) left)),used + ssum (szN cf sf N c) (pick (szN cf sf N c) left),left - ssum (szN cf sf N c) (pick (szN cf sf N c) left))):=by
 have hz:=szN_szs (cf:=cf) hs c
 have hle:=pick_le (szN cf sf N c) left
 have hle2:=posN_len cf N c
 have hsl:=szN_len cf sf N c
 have hf:=pick_fits (szN cf sf N c) hl.1
 have hr:=ssum_range hz hle
 unfold one
 rw [most_eq hz (by omega),Option.bind_some]
 generalize hv : pick (szN cf sf N c) left = v at *
 have e1 : (List.length ((posN cf N c).map Int.ofNat) : Int) = ((posN cf N c).length : Int):=by simp
 simp only []
 rw [e1,spread_eq _ _ (by omega),Option.bind_some,Int.toNat_natCast,Int.toNat_natCast,Nat.min_eq_right (by omega)]
 rw [keepL,mark_eq (posN cf N c) N v (by omega) (fun p hp=>(mem_posN.1 hp).1) (by omega) hle2 (kp cf N m),Option.bind_some]
 have e2 : (List.range N).map (fun i=>kp cf N m i || selP (posN cf N c) v v i) = keepL cf N (updm m c v):=by
  unfold keepL
  congr 1
  funext i
  exact kp_upd hc hm (by omega) i
 rw [e2]
 simp only [budget_Plan_K35,budget_Plan_K28,e1]
 rw [wrap_i64 (by omega) (by omega),wrap_i64 (by omega) (by omega)]
 by_cases h : v < (posN cf N c).length
 ·have : decide ((v : Int) < ((posN cf N c).length : Int)) = true:=decide_eq_true (by omega)
  rw [this,if_pos rfl,if_pos h]
 ·have : decide ((v : Int) < ((posN cf N c).length : Int)) = false:=decide_eq_false (by omega)
  rw [this,if_neg (by decide),if_neg h]
theorem classes_eq {cf sf : Nat→Int} {N : Nat} (hN : N≤1000) (hs : ∀ i,i < N→1≤sf i∧sf i≤400) (p0 p1 p2 p3 p4 s0 s1 s2 s3 s4 : List Int)
  (hp0 : p0 = (posN cf N 0).map Int.ofNat) (hp1 : p1 = (posN cf N 1).map Int.ofNat) (hp2 : p2 = (posN cf N 2).map Int.ofNat) (hp3 : p3 = (posN cf N 3).map Int.ofNat) (hp4 : p4 = (posN cf N 4).map Int.ofNat)
  (hs0 : s0 = szN cf sf N 0) (hs1 : s1 = szN cf sf N 1) (hs2 : s2 = szN cf sf N 2) (hs3 : s3 = szN cf sf N 3) (hs4 : s4 = szN cf sf N 4) :
  ∀ (n k : Nat) (m : Int→Nat) (used left : Int),n + k = 5→(∀ c∈([1,2,3,4,0] : List Int).drop k,m c = 0)→0≤used→used≤400000 + 400000 * (k : Int)→0≤left→left≤9223372036854775807 →
   (forGo (fun k18 s=>budget_Plan_L22 p0 p1 p2 p3 p4 s0 s1 s2 s3 s4 k18 s.1 s.2.1 s.2.2) n k (keepL cf N m,used,left)).bind (fun
    | .next s=>budget_Plan_K17 s.1 s.2.1
    | .done e=>budget_Plan_K17 e.1 e.2) = some (keepL cf N (allo cf sf N (([1,2,3,4,0] : List Int).drop k) m used left).1,(allo cf sf N (([1,2,3,4,0] : List Int).drop k) m used left).2)
 | 0,k,m,used,left,hk,_,_,_,_,_=>by
  have : k = 5:=by omega
  subst this
  rfl
 | n + 1,k,m,used,left,hk,hm,h1,h2,h3,h4=>by
  obtain ⟨c,hc1,hc2⟩ : ∃ c,([1,2,3,4,0] : List Int).drop k = c :: ([1,2,3,4,0] : List Int).drop (k + 1)∧0≤c:=by
   have : k = 0∨k = 1∨k = 2∨k = 3∨k = 4:=by omega
   rcases this with rfl | rfl | rfl | rfl | rfl <;> exact ⟨_,rfl,by decide⟩
  have hbody : budget_Plan_L22 p0 p1 p2 p3 p4 s0 s1 s2 s3 s4 k (keepL cf N m) used left = one ((posN cf N c).map Int.ofNat) (szN cf sf N c) (keepL cf N m) used left:=by
   rw [L22_eq]
   subst hp0 hp1 hp2 hp3 hp4 hs0 hs1 hs2 hs3 hs4
   have : k = 0∨k = 1∨k = 2∨k = 3∨k = 4:=by omega
   rcases this with rfl | rfl | rfl | rfl | rfl <;> (injection hc1 with hc1 _; subst hc1; rfl)
  have hmc : m c = 0:=hm c (by rw [hc1]; simp)
  have ho:=one_eq (cf:=cf) hN hs hc2 hmc (used:=used) (left:=left) ⟨h1,by omega⟩ ⟨h3,h4⟩
  have hz:=szN_szs (cf:=cf) hs c
  have hr:=ssum_range hz (pick_le (szN cf sf N c) left)
  have hf:=pick_fits (szN cf sf N c) h3
  have hle:=pick_le (szN cf sf N c) left
  have hle2:=posN_len cf N c
  have hsl:=szN_len cf sf N c
  have hnd : ∀ c'∈([1,2,3,4,0] : List Int).drop (k + 1),c'≠c:=by
   have : k = 0∨k = 1∨k = 2∨k = 3∨k = 4:=by omega
   rcases this with rfl | rfl | rfl | rfl | rfl <;> (injection hc1 with hc1 _; subst hc1; decide)
  unfold forGo
  rw [hbody,ho,Option.bind_some,hc1]
  unfold allo
  by_cases h : pick (szN cf sf N c) left < (posN cf N c).length
  ·rw [if_pos h,if_pos h]; rfl
  ·rw [if_neg h,if_neg h]
   exact classes_eq hN hs p0 p1 p2 p3 p4 s0 s1 s2 s3 s4 hp0 hp1 hp2 hp3 hp4 hs0 hs1 hs2 hs3 hs4 n (k + 1) _ _ _ (by omega) (fun c' hc'=>by
    unfold updm
    rw [if_neg (hnd c' hc')]
    exact hm c' (by rw [hc1]; exact List.mem_cons_of_mem _ hc')) (by omega) (by push_cast; omega) (by omega) (by omega)
def rcls (r : RRec) : Int:=if r.gWhat = 1 then ofc r.gEvent else -1
def rsz (r : RRec) : Int:=((recBytes (reOf r)).length : Int)
def cfOf (rs : List RRec) (i : Nat) : Int:=match rs[i]? with
 | some r=>rcls r
 | none=>0
def sfOf (rs : List RRec) (i : Nat) : Int:=match rs[i]? with
 | some r=>rsz r
 | none=>0
def left0 (x u : Int) : Int:=if (if x > 0 then x else 0) - u > 0 then (if x > 0 then x else 0) - u else 0
def planM (cf sf : Nat→Int) (N : Nat) (x : Int) : (Int→Nat) × Int:=allo cf sf N [1,2,3,4,0] (fun _=>0) (usedN cf sf N) (left0 x (usedN cf sf N))
def RFit (r : RRec) : Prop:=reFits r = true∧1≤rsz r∧rsz r≤400
theorem size_eq {r : RRec} (h : RFit r) : record_Size r = some (rsz r):=by
 unfold record_Size
 rw [chk_pos h.1]; rfl
theorem sfOf_range {rs : List RRec} (h : ∀ r∈rs,RFit r) : ∀ i,i < rs.length→1≤sfOf rs i∧sfOf rs i≤400:=by
 intro i hi
 unfold sfOf
 rw [List.getElem?_eq_getElem hi]
 exact (h _ (List.getElem_mem hi)).2
def keepK (cf : Nat→Int) (N k : Nat) : List Bool:=(List.range N).map fun i=>decide (i < k) && decide (cf i < 0)
theorem keepK_end (cf : Nat→Int) (N : Nat) : keepK cf N N = keepL cf N (fun _=>0):=by
 unfold keepK keepL
 apply List.map_congr_left
 intro i hi
 rw [List.mem_range] at hi
 simp [kp,hi,selP_zero]
theorem first_eq {rs : List RRec} (h : ∀ r∈rs,RFit r) (hN : rs.length≤1000) :
  foldM' 9223372036854775807 (List.length rs : Int) (fun k126 s=>budget_Plan_L139 rs k126 s.1 s.2.1 s.2.2.1 s.2.2.2.1 s.2.2.2.2.1 s.2.2.2.2.2.1 s.2.2.2.2.2.2.1 s.2.2.2.2.2.2.2.1 s.2.2.2.2.2.2.2.2.1 s.2.2.2.2.2.2.2.2.2.1 s.2.2.2.2.2.2.2.2.2.2.1 s.2.2.2.2.2.2.2.2.2.2.2)
   ((List.replicate (Int.toNat (List.length rs : Int)) false),0,([] : List Int),([] : List Int),([] : List Int),([] : List Int),([] : List Int),([] : List Int),([] : List Int),([] : List Int),([] : List Int),([] : List Int)) =
  some (keepK (cfOf rs) rs.length rs.length,usedN (cfOf rs) (sfOf rs) rs.length,(posN (cfOf rs) rs.length 0).map Int.ofNat,(posN (cfOf rs) rs.length 1).map Int.ofNat,(posN (cfOf rs) rs.length 2).map Int.ofNat,(posN (cfOf rs) rs.length 3).map Int.ofNat,(posN (cfOf rs) rs.length 4).map Int.ofNat,
   szN (cfOf rs) (sfOf rs) rs.length 0,szN (cfOf rs) (sfOf rs) rs.length 1,szN (cfOf rs) (sfOf rs) rs.length 2,szN (cfOf rs) (sfOf rs) rs.length 3,szN (cfOf rs) (sfOf rs) rs.length 4):=by
 have hsr:=sfOf_range h
 refine foldM_spec rs.length (fun k=>(keepK (cfOf rs) rs.length k,usedN (cfOf rs) (sfOf rs) k,(posN (cfOf rs) k 0).map Int.ofNat,(posN (cfOf rs) k 1).map Int.ofNat,(posN (cfOf rs) k 2).map Int.ofNat,(posN (cfOf rs) k 3).map Int.ofNat,(posN (cfOf rs) k 4).map Int.ofNat,
   szN (cfOf rs) (sfOf rs) k 0,szN (cfOf rs) (sfOf rs) k 1,szN (cfOf rs) (sfOf rs) k 2,szN (cfOf rs) (sfOf rs) k 3,szN (cfOf rs) (sfOf rs) k 4)) ?_ rfl (by omega) (fun j hj=>?_)
 ·have : keepK (cfOf rs) rs.length 0 = List.replicate rs.length false:=by
   unfold keepK
   apply List.ext_getElem
   ·simp
   ·intro i h1 h2; simp
  rw [this,Int.toNat_natCast]; rfl
 ·obtain ⟨r,hr⟩ : ∃ r,rs[j]? = some r := ⟨_,List.getElem?_eq_getElem hj⟩
  have hrm : r∈rs:=List.mem_of_getElem? hr
  have hcf : cfOf rs j = rcls r:=by unfold cfOf; rw [hr]
  have hsf : sfOf rs j = rsz r:=by unfold sfOf; rw [hr]
  have hu:=usedN_range (cf:=cfOf rs) hsr j (by omega)
  have hs1:=hsr j hj
  have hlen : ∀ c,(posN (cfOf rs) j c).length≤j:=posN_len (cfOf rs) j
  have hlen2 : ∀ c,(szN (cfOf rs) (sfOf rs) j c).length≤j:=fun c=>by rw [szN_len]; exact hlen c
  simp only [budget_Plan_L139]
  rw [idx_some hr,Option.bind_some,size_eq (h r hrm),Option.bind_some,← hsf]
  simp only [posN_succ,szN_succ,usedN_succ]
  by_cases hw : r.gWhat = 1
  ·have e1 : (r.gWhat != 1) = false:=by simp [hw]
   have hc : cfOf rs j = ofc r.gEvent:=by rw [hcf,rcls,if_pos hw]
   have hor:=ofc_range r.gEvent
   rw [e1,if_neg (by decide),of_eq,Option.bind_some,← hc]
   rw [← hc] at hor
   have hk : keepK (cfOf rs) rs.length (j + 1) = keepK (cfOf rs) rs.length j:=by
    unfold keepK
    apply List.map_congr_left
    intro i hi
    by_cases hij : i = j
    ·subst hij
     have : decide (cfOf rs i < 0) = false:=decide_eq_false (by omega)
     rw [this,Bool.and_false,Bool.and_false]
    ·have : decide (i < j + 1) = decide (i < j):=by rw [decide_eq_decide]; omega
     rw [this]
   rw [hk]
   generalize cfOf rs j = c at *
   have hneg : ¬ c < 0:=by omega
   have l0:=hlen 0; have l1:=hlen 1; have l2:=hlen 2; have l3:=hlen 3; have l4:=hlen 4
   have q0:=hlen2 0; have q1:=hlen2 1; have q2:=hlen2 2; have q3:=hlen2 3; have q4:=hlen2 4
   have : c = 0∨c = 1∨c = 2∨c = 3∨c = 4:=by omega
   rcases this with rfl | rfl | rfl | rfl | rfl <;> (simp only [Int.reduceBEq,Bool.false_eq_true,if_false,if_true,beq_self_eq_true,Int.reduceEq,Int.reduceLT,Int.add_zero,List.map_append,List.map_cons,List.map_nil]; rw [chk_pos (by simp [apOk]; omega),chk_pos (by simp [apOk]; omega)]; rfl)
  ·have e1 : (r.gWhat != 1) = true:=by simp [hw]
   have hc : cfOf rs j = -1:=by rw [hcf,rcls,if_neg hw]
   rw [e1,if_pos rfl]
   have hset : (keepK (cfOf rs) rs.length j).set j true = keepK (cfOf rs) rs.length (j + 1):=by
    unfold keepK
    rw [set_range]
    apply List.map_congr_left
    intro i hi
    by_cases hij : j = i
    ·subst hij
     have : decide (cfOf rs j < 0) = true:=decide_eq_true (by omega)
     simp [this]
    ·have e2 : (j == i) = false:=by simp [hij]
     have : decide (i < j + 1) = decide (i < j):=by rw [decide_eq_decide]; omega
     rw [this,e2,Bool.or_false]
   have hi : ∃ b,idx (keepK (cfOf rs) rs.length j) (j : Int) = some b:=by
    unfold keepK
    rw [idx_nat,List.getElem?_map,List.getElem?_range hj]; exact ⟨_,rfl⟩
   obtain ⟨b,hb⟩ := hi
   rw [hb,Option.bind_some,Int.toNat_natCast,hset,hc,wrap_i64 (by omega) (by omega)]
   simp
theorem plan_eq {rs : List RRec} (h : ∀ r∈rs,RFit r) (hN : rs.length≤1000) {x : Int} (hx : -9223372036854775808≤x∧x≤9223372036854775807) :
  budget_Plan rs x = some (keepL (cfOf rs) rs.length (planM (cfOf rs) (sfOf rs) rs.length x).1,(planM (cfOf rs) (sfOf rs) rs.length x).2):=by
 have hu:=usedN_range (cf:=cfOf rs) (sfOf_range h) rs.length (Nat.le_refl _)
 unfold budget_Plan
 rw [chk_pos (by unfold mkOk; omega),first_eq h hN,Option.bind_some]
 simp only [budget_Plan_K14]
 rw [keepK_end]
 have hl : (if x > 0 then x else 0) - usedN (cfOf rs) (sfOf rs) rs.length≤9223372036854775807∧-9223372036854775808≤(if x > 0 then x else 0) - usedN (cfOf rs) (sfOf rs) rs.length:=by split <;> omega
 rw [wrap_i64 hl.2 hl.1]
 unfold forM'
 rw [chk_pos (by omega)]
 have hl0 : 0≤left0 x (usedN (cfOf rs) (sfOf rs) rs.length)∧left0 x (usedN (cfOf rs) (sfOf rs) rs.length)≤9223372036854775807:=by
  unfold left0; split <;> omega
 exact classes_eq hN (sfOf_range h) _ _ _ _ _ _ _ _ _ _ rfl rfl rfl rfl rfl rfl rfl rfl rfl rfl 5 0 (fun _=>0) _ _ rfl (fun _ _=>rfl) (by omega) (by omega) hl0.1 hl0.2
end Go.Proofs.YtifaebmmbpkclaaGreatDoor
set_option maxHeartbeats 1000000
namespace Go.Proofs.YtifaebmmbpkclaaGreatDoor
open Go.RowKit
def U32 (x : Int) : Prop:=0≤x∧x < 4294967296
theorem wrap_u32R (x : Int) : U32 (IntKind.wrap .u32 x):=by
 simp [U32,IntKind.wrap,IntKind.bits,IntKind.signed]; omega
theorem bit_u32R (op : BinOp) (x y : Int) : U32 (bitI op .u32 x y):=by
 unfold bitI
 split <;> exact wrap_u32R _
theorem wrap_u8m {n : Int} : IntKind.wrap .u8 n = n % 256:=by
 simp [IntKind.wrap,IntKind.bits,IntKind.signed]
def crc1 (a : Int) : Int:=(frame_update_L4 0 a).getD 0
theorem crc1_some (k : Nat) (a : Int) : frame_update_L4 k a = some (crc1 a):=by
 unfold crc1 frame_update_L4
 split <;> rfl
def iterI (f : Int→Int) : Nat→Int→Int
 | 0,a=>a
 | n + 1,a=>f (iterI f n a)
def crcB (a v : Int) : Int:=iterI crc1 8 (bitI .xor .u32 a (IntKind.wrap .u32 v))
theorem crcB_some (x1 : List Int) (k : Nat) (a : Int) (h : k < x1.length) : frame_update_L2 x1 k a = some (crcB a x1[k]):=by
 unfold frame_update_L2
 have : idx x1 (k : Int) = some x1[k]:=by simp [idx,h]
 rw [this]
 simp only [Option.bind_some]
 have hf : foldM' 9223372036854775807 8 (fun k12 s=>frame_update_L4 k12 s) (bitI .xor .u32 a (IntKind.wrap .u32 x1[k])) = some (crcB a x1[k]) :=
  foldM_spec (mx:=9223372036854775807) (n:=8) (body:=fun k12 s=>frame_update_L4 k12 s) (s0:=bitI .xor .u32 a (IntKind.wrap .u32 x1[k])) 8 (fun j=>iterI crc1 j (bitI .xor .u32 a (IntKind.wrap .u32 x1[k]))) rfl rfl (by decide) (fun j _=>crc1_some _ _)
 rw [hf]
 rfl
def crcL (s : Int) (xs : List Int) : Int:=xs.foldl crcB s
theorem update_eq (s : Int) (xs : List Int) (h : xs.length≤9223372036854775807) : frame_update s xs = some (crcL s xs):=by
 unfold frame_update
 rw [foldM_spec (s0:=s) xs.length (fun j=>crcL s (xs.take j)) (by simp [crcL]) rfl (by omega) (fun j hj=>?_)]
 ·simp [frame_update_K1]
 ·show frame_update_L2 xs j _ = _
  rw [crcB_some xs j _ hj]
  congr 1
  unfold crcL
  rw [List.take_succ_eq_append_getElem hj,List.foldl_append]
  rfl
def ckS (a b : List Int) : Int:=bitI .xor .u32 (if IntKind.signed .u32 = true then -1 else IntKind.max .u32) (crcL (crcL 4294967295 a) b)
theorem checksum_eq (a b : List Int) (ha : a.length≤9223372036854775807) (hb : b.length≤9223372036854775807) : frame_checksum a b = some (ckS a b):=by
 unfold frame_checksum
 rw [update_eq _ _ ha]
 simp only [Option.bind_some]
 rw [update_eq _ _ hb]
 rfl
theorem ckS_range (a b : List Int) : U32 (ckS a b):=bit_u32R _ _ _
def sumB (s : Int) : List Int:=[s % 256,s / 256 % 256,s / 65536 % 256,s / 16777216 % 256]
def lenB (n : Nat) : List Int:=[(n : Int) % 256,(n : Int) / 256 % 256]
def frameOf (b : List Int) : List Int:=[165,90]++lenB b.length++sumB (ckS (lenB b.length) b)++b
theorem frameOf_len (b : List Int) : (frameOf b).length = 8 + b.length:=by simp [frameOf,lenB,sumB]; omega
theorem append_eq (p b : List Int) (hb : b.length≤4000) (hp : p.length≤1099511627776) : frame_Append p b = some (p++frameOf b,0):=by
 unfold frame_Append
 have h1 : ¬ (4000 < (List.length b : Int)):=by omega
 have e1 : [(IntKind.wrap .u8 (List.length b : Int)),(IntKind.wrap .u8 (Int.fdiv (List.length b : Int) (2 ^ min (Int.toNat 8) (IntKind.bits .i64))))] = lenB b.length:=by
  have : (2 : Int) ^ min (Int.toNat 8) (IntKind.bits .i64) = 256:=by decide
  rw [this,wrap_u8m,wrap_u8m,Int.fdiv_eq_ediv_of_nonneg _ (by omega)]
  rfl
 simp only [h1,decide_false,Bool.false_eq_true,if_false,e1]
 rw [checksum_eq _ _ (by simp [lenB]) (by omega)]
 simp only [Option.bind_some]
 have hs:=ckS_range (lenB b.length) b
 have e2 : ∀ s : Int,U32 s→[(IntKind.wrap .u8 s),(IntKind.wrap .u8 (Int.fdiv s (2 ^ min (Int.toNat 8) (IntKind.bits .u32)))),(IntKind.wrap .u8 (Int.fdiv s (2 ^ min (Int.toNat 16) (IntKind.bits .u32)))),(IntKind.wrap .u8 (Int.fdiv s (2 ^ min (Int.toNat 24) (IntKind.bits .u32))))] = sumB s:=by
  intro s hs
  have a1 : (2 : Int) ^ min (Int.toNat 8) (IntKind.bits .u32) = 256:=by decide
  have a2 : (2 : Int) ^ min (Int.toNat 16) (IntKind.bits .u32) = 65536:=by decide
  have a3 : (2 : Int) ^ min (Int.toNat 24) (IntKind.bits .u32) = 16777216:=by decide
  rw [a1,a2,a3,wrap_u8m,wrap_u8m,wrap_u8m,wrap_u8m,Int.fdiv_eq_ediv_of_nonneg _ (by omega),Int.fdiv_eq_ediv_of_nonneg _ (by omega),Int.fdiv_eq_ediv_of_nonneg _ (by omega)]
  rfl
 rw [e2 _ hs]
 have i0 : idx (lenB b.length) 0 = some ((b.length : Int) % 256):=rfl
 have i1 : idx (lenB b.length) 1 = some ((b.length : Int) / 256 % 256):=rfl
 rw [i0,i1]
 simp only [Option.bind_some]
 have w1 : IntKind.wrap .i64 ((List.length p : Int) + 8) = (List.length p : Int) + 8:=wrap_i64 (by omega) (by omega)
 rw [w1,wrap_i64 (by omega) (by omega)]
 have l4 : (sumB (ckS (lenB b.length) b)).length = 4:=rfl
 rw [chk_pos (by unfold mkOk; omega),chk_pos (by simp [apOk]; omega),chk_pos (by simp [apOk]; omega),chk_pos (by simp [apOk,l4]; omega),chk_pos (by simp [apOk,l4]; omega)]
 simp [frameOf,lenB]
end Go.Proofs.YtifaebmmbpkclaaGreatDoor
namespace Go.Proofs.YtifaebmmbpkclaaGreatDoor
def convR (b : rootcauseref24_Rec) : RRec := ⟨b.gComponent,b.gSeq,⟨clkOf b.gClock⟩,b.gWhat,b.gEvent,b.gCount⟩
theorem conv_one {b : rootcauseref24_Rec} (h : b.gClock.length≤16) : rootcauselaw24_Record b = some (convR b,true):=by
 unfold rootcauselaw24_Record vclock_Of
 rw [chk_pos h]
 rfl
theorem conv_eq {a : RRec} {b : rootcauseref24_Rec} (h : SameR a b) : a = convR b:=by
 obtain ⟨_,h1,h2,h3,h4,h5,_,h6,_⟩ := h
 cases a
 simp only at h1 h2 h3 h4 h5 h6
 subst h1; subst h2; subst h3; subst h4; subst h5; subst h6
 rfl
theorem map_take_succ {α β : Type} (f : α→β) (xs : List α) {k : Nat} {x : α} (h : xs[k]? = some x) : (xs.take (k + 1)).map f = (xs.take k).map f++[f x]:=by
 rw [List.take_add_one,h,List.map_append]; rfl
theorem conv_L6 {ws : List rootcauseref24_Rec} (hl : ws.length≤1000) (h : ∀ b∈ws,b.gClock.length≤16) : foldM' 9223372036854775807 (List.length ws : Int) (fun k38 s=>rootcauselaw28_expect_L6 ws k38 s) ([] : List RRec) = some (ws.map convR):=by
 have:=foldM_spec (S:=List RRec) (mx:=9223372036854775807) (n:=(List.length ws : Int)) (body:=fun k38 s=>rootcauselaw28_expect_L6 ws k38 s) (s0:=[]) ws.length (fun k=>(ws.take k).map convR) rfl rfl (by omega) (fun j hj=>by
  unfold rootcauselaw28_expect_L6
  have hx : ws[j]? = some ws[j]:=List.getElem?_eq_getElem hj
  have hm:=h ws[j] (List.getElem_mem hj)
  generalize ws[j] = b at hx hm
  simp only [idx_nat,hx,Option.bind_some,conv_one hm]
  rw [chk_pos (by constructor <;> simp <;> omega),map_take_succ _ _ hx])
 rw [this,List.take_length]
theorem conv_L8 {v2 : List rootcauseref24_Rec × Int} (hl : v2.1.length≤1000) (h : ∀ b∈v2.1,b.gClock.length≤16) : foldM' 9223372036854775807 (List.length v2.1 : Int) (fun k55 s=>rootcauselaw28_expect_L8 v2 k55 s) ([] : List RRec) = some (v2.1.map convR):=by
 have:=foldM_spec (S:=List RRec) (mx:=9223372036854775807) (n:=(List.length v2.1 : Int)) (body:=fun k55 s=>rootcauselaw28_expect_L8 v2 k55 s) (s0:=[]) v2.1.length (fun k=>(v2.1.take k).map convR) rfl rfl (by omega) (fun j hj=>by
  unfold rootcauselaw28_expect_L8
  have hx : v2.1[j]? = some v2.1[j]:=List.getElem?_eq_getElem hj
  have hm:=h v2.1[j] (List.getElem_mem hj)
  generalize v2.1[j] = b at hx hm
  simp only [idx_nat,hx,Option.bind_some,conv_one hm]
  rw [chk_pos (by constructor <;> simp <;> omega),map_take_succ _ _ hx])
 rw [this,List.take_length]
theorem foldM_two {S S' : Type} {mx n n' : Int} {b : Nat→S→Option S} {b' : Nat→S'→Option S'} {s : S} {s' : S'} (R : Nat→S→S'→Prop) (N : Nat) (hn : n = (N : Int)) (hn' : n' = (N : Int)) (hx : (N : Int)≤mx) (h0 : R 0 s s')
  (h : ∀ k s s',k < N→R k s s'→∃ t t',b k s = some t∧b' k s' = some t'∧R (k + 1) t t') : ∃ t t',foldM' mx n b s = some t∧foldM' mx n' b' s' = some t'∧R N t t' := by
 subst hn; subst hn'
 unfold foldM'
 rw [chk_pos hx,chk_pos hx,Int.toNat_natCast]
 have : ∀ m k s s',m + k = N→R k s s'→∃ t t',foldGo b m k s = some t∧foldGo b' m k s' = some t'∧R N t t' := by
  intro m
  induction m with
  | zero=>
   intro k s s' hk hs
   rw [Nat.zero_add] at hk
   subst hk
   exact ⟨s,s',rfl,rfl,hs⟩
  | succ m ih=>
   intro k s s' hk hs
   obtain ⟨t,t',h1,h2,h3⟩ := h k s s' (by omega) hs
   obtain ⟨u,u',k1,k2,k3⟩ := ih (k + 1) t t' (by omega) h3
   refine ⟨u,u',?_,?_,k3⟩ <;> unfold foldGo
   ·rw [h1]; exact k1
   ·rw [h2]; exact k2
 exact this N 0 s s' (by omega) h0
def ev00 : AEv:=AEv.mk 0 0 0 0 0 0 0 0 []
theorem lost_fits {c q n : Int} (hc : 0≤c∧c≤1000) (hq : 0≤q∧q≤1000) (hn : 0≤n∧n≤1000) : reFits (convR ⟨2,c,q,n,[],ev00⟩) = true:=by
 unfold reFits ckFits convR ev00
 simp only [Bool.and_eq_true,List.all_eq_true,okI_iff,List.mem_range]
 refine ⟨⟨⟨⟨⟨⟨by omega,by omega⟩,⟨by omega,by omega⟩⟩,fun i hi=>?_⟩,by decide⟩,by decide⟩,⟨by omega,by omega⟩⟩
 show InR .u64 (([] : List Int).getD i 0)
 exact ⟨by simp,by simp⟩
theorem thin_drop {ws : List rootcauseref24_Rec} {keep : List Bool} {u : Int} (hk : keep.length = ws.length) (hl : ws.length≤20) (h : ∀ (i : Nat) b,ws[i]? = some b→b.gWhat = 1∧b.gSeq = (i : Int)∧0≤b.gComponent∧b.gComponent≤8∧b.gClock.length≤16∧reFits (convR b) = true) :
  ∃ ds,rootcauseref28_Dropped ws keep = some ds∧foldM' 9223372036854775807 (List.length (ws.map convR) : Int) (fun k4 s=>recorder_thin_L2 (ws.map convR) (keep,u) k4 s) ([] : List RRec) = some (ds.map convR)∧ds.length≤20∧∀ d∈ds,d.gClock.length≤16∧reFits (convR d) = true:=by
 obtain ⟨t,t',e1,e2,r1,r2,r3,_⟩ := foldM_two (S:=List rootcauseref24_Rec) (S' := List RRec) (mx:=9223372036854775807) (n:=(List.length ws : Int)) (n' := (List.length (ws.map convR) : Int)) (b:=fun k2 s=>rootcauseref28_Dropped_L2 ws keep k2 s) (b' := fun k4 s=>recorder_thin_L2 (ws.map convR) (keep,u) k4 s) (s:=[]) (s' := [])
  (fun k s s'=>s' = s.map convR∧s.length≤k∧(∀ d∈s,d.gClock.length≤16∧reFits (convR d) = true) ∧
   (k = 0∨∃ b pre last,keep[k - 1]? = some b∧s = pre++[last]∧((b = true∧last.gWhat = 1)∨(b = false∧∃ c q n,last = ⟨2,c,q,n,[],ev00⟩∧0≤c∧c≤8∧0≤q∧1≤n∧q + n = (k : Int)))))
  ws.length rfl (by rw [List.length_map]) (by omega) ⟨rfl,Nat.le_refl _,fun d hd=>by (cases hd),.inl rfl⟩ (fun k s s' hk' ⟨i1,i2,i3,i4⟩=>by
   subst i1
   have hx : ws[k]? = some ws[k]:=List.getElem?_eq_getElem hk'
   obtain ⟨w1,w2,w3,w4,w5,w6⟩ := h k _ hx
   generalize ws[k] = x at hx w1 w2 w3 w4 w5 w6
   have hy : (ws.map convR)[k]? = some (convR x):=by rw [List.getElem?_map,hx]; rfl
   have hkp : keep[k]? = some (keep[k]'(by omega)):=List.getElem?_eq_getElem (by omega)
   generalize keep[k]'(by omega) = kb at hkp
   unfold rootcauseref28_Dropped_L2 recorder_thin_L2
   simp only [idx_nat,hx,hy,hkp,Option.bind_some]
   cases kb with
   | true=>
    rw [if_pos rfl,if_pos rfl,chk_pos (by constructor <;> simp <;> omega),chk_pos (by constructor <;> simp <;> omega)]
    refine ⟨_,_,rfl,rfl,by rw [List.map_append]; rfl,by simp; omega,fun d hd=>?_,.inr ⟨true,s,x,by simpa using hkp,rfl,.inl ⟨rfl,w1⟩⟩⟩
    rcases List.mem_append.1 hd with q | q
    ·exact i3 d q
    ·simp only [List.mem_singleton] at q; subst q; exact ⟨w5,w6⟩
   | false=>
    rw [if_neg (by simp),if_neg (by simp)]
    have hnew : ∀ pre : List rootcauseref24_Rec,pre.length≤k→(∀ d∈pre,d.gClock.length≤16∧reFits (convR d) = true)→∃ t t',chk (apOk 144 (List.length pre + List.length [(rootcauseref24_Rec.mk 2 x.gComponent x.gSeq 1 [] (AEv.mk 0 0 0 0 0 0 0 0 []))])) (some (pre++[(rootcauseref24_Rec.mk 2 x.gComponent x.gSeq 1 [] (AEv.mk 0 0 0 0 0 0 0 0 []))])) = some t ∧
      chk (apOk 248 (List.length (pre.map convR) + List.length [(RRec.mk (convR x).gComponent (convR x).gSeq (VClk.mk (arr 0 [0,0,0,0,0,0,0,0,0,0,0,0,0,0,0,0])) 2 (AEv.mk 0 0 0 0 0 0 0 0 []) 1)])) (some (pre.map convR++[(RRec.mk (convR x).gComponent (convR x).gSeq (VClk.mk (arr 0 [0,0,0,0,0,0,0,0,0,0,0,0,0,0,0,0])) 2 (AEv.mk 0 0 0 0 0 0 0 0 []) 1)])) = some t' ∧
      (t' = t.map convR∧t.length≤k + 1∧(∀ d∈t,d.gClock.length≤16∧reFits (convR d) = true) ∧
   (k + 1 = 0∨∃ b pre last,keep[k + 1 - 1]? = some b∧t = pre++[last]∧((b = true∧last.gWhat = 1)∨(b = false∧∃ c q n,last = ⟨2,c,q,n,[],ev00⟩∧0≤c∧c≤8∧0≤q∧1≤n∧q + n = ((k + 1 : Nat) : Int))))):=by
     intro pre hp hpf
     rw [chk_pos (by constructor <;> simp <;> omega),chk_pos (by constructor <;> simp <;> omega)]
     refine ⟨_,_,rfl,rfl,?_,by simp; omega,fun d hd=>?_,.inr ⟨false,pre,_,by simpa using hkp,rfl,.inr ⟨rfl,x.gComponent,x.gSeq,1,rfl,w3,w4,by omega,by omega,by rw [w2]; omega⟩⟩⟩
     ·rw [List.map_append,arr0]; rfl
     ·rcases List.mem_append.1 hd with q | q
      ·exact hpf d q
      ·simp only [List.mem_singleton] at q; subst q
       exact ⟨by simp,lost_fits (by omega) (by omega) (by omega)⟩
    rcases i4 with h0 | ⟨b,pre,last,b1,b2,b3⟩
    ·subst h0
     have : s = []:=List.eq_nil_of_length_eq_zero (by omega)
     subst this
     simp [gb]
     have:=hnew [] (Nat.le_refl _) (fun d hd=>by cases hd)
     simpa using this
    ·have hk0 : 0 < k:=by
      rcases Nat.eq_zero_or_pos k with h | h
      ·subst h; rw [b2] at i2; simp at i2
      ·exact h
     have hsl : s.length = pre.length + 1:=by rw [b2]; simp
     have hd1 : decide ((0 : Int) < (List.length s : Int)) = true:=by simp; omega
     have hd2 : decide ((0 : Int) < (k : Int)) = true:=by simp; omega
     have hwl : IntKind.wrap .i64 ((List.length s : Int) - 1) = ((pre.length : Nat) : Int):=by rw [wrap_i64 (by omega) (by omega)]; omega
     have hwl' : IntKind.wrap .i64 ((List.length (s.map convR) : Int) - 1) = ((pre.length : Nat) : Int):=by rw [List.length_map]; exact hwl
     have hwk : IntKind.wrap .i64 ((k : Int) - 1) = ((k - 1 : Nat) : Int):=by rw [wrap_i64 (by omega) (by omega)]; omega
     have hlast : s[pre.length]? = some last:=by rw [b2]; simp
     have hlast' : (s.map convR)[pre.length]? = some (convR last):=by rw [List.getElem?_map,hlast]; rfl
     simp only [hd1,hd2,gb,if_true,hwl,hwl',hwk,idx_nat,hlast,hlast',b1,Option.bind_some,Bool.true_and]
     rcases b3 with ⟨rfl,c1⟩ | ⟨rfl,c,q,n,rfl,c1,c2,c3,c4,c5⟩
     ·rw [c1]
      simp
      have:=hnew s (by omega) i3
      simpa using this
     ·have hw : IntKind.wrap .u64 (q + n) = x.gSeq:=by rw [wrap_u64 (by omega) (by omega),w2,c5]
      have hw1 : IntKind.wrap .u64 (n + 1) = n + 1:=wrap_u64 (by omega) (by omega)
      simp only [show ((2 : Int) == 2) = true from rfl,if_true,hw,beq_self_eq_true,Bool.true_and,Bool.not_false,Option.bind_some,Int.toNat_natCast,convR,hw1]
      have hset : s.set pre.length ⟨2,c,q,n + 1,[],ev00⟩ = pre++[⟨2,c,q,n + 1,[],ev00⟩]:=by rw [b2]; simp
      refine ⟨_,_,rfl,rfl,?_,by simp; omega,fun d hd=>?_,.inr ⟨false,pre,_,by simpa using hkp,hset,.inr ⟨rfl,c,q,n + 1,rfl,c1,c2,c3,by omega,by omega⟩⟩⟩
      ·rw [List.map_set]; rfl
      ·rw [hset] at hd
       rcases List.mem_append.1 hd with z | z
       ·exact i3 d (by rw [b2]; exact List.mem_append_left _ z)
       ·simp only [List.mem_singleton] at z; subst z
        exact ⟨by simp,lost_fits (by omega) (by omega) (by omega)⟩)
 unfold rootcauseref28_Dropped
 rw [e1,e2,r1]
 exact ⟨t,rfl,rfl,by omega,r3⟩
end Go.Proofs.YtifaebmmbpkclaaGreatDoor
namespace Go.Proofs.YtifaebmmbpkclaaGreatDoor
theorem wrap_R (x : Int) : InR .u64 (IntKind.wrap .u64 x):=by
 simp only [InR,IntKind.wrap,IntKind.signed,IntKind.bits]
 simp
 omega
theorem rfit_of {r : RRec} (h : reFits r = true) (hv : validB (reOf r) = true) : RFit r:=by
 have hs:=recBytes_small (reFits_T h).1
 have hn:=recBytes_ne hv
 refine ⟨h,?_,?_⟩
 ·unfold rsz
  have : 0 < (recBytes (reOf r)).length:=List.length_pos_iff.2 hn
  omega
 ·unfold rsz; omega
structure RingOk (o : ring_Ring) (m : Nat) : Prop where
 list : ∀ r∈o.glist,reFits r = true
 len : o.glist.length≤m
 comp : InR .i64 o.gcomponent
 first : InR .u64 o.gfirst
theorem args_of {x : RRec} (h : reFits x = true) : x.gEvent.gArgs.length≤1099511627776:=(reFits_T h).2
theorem clone_some {x : RRec} (h : reFits x = true) : ring_clone x = some x:=by
 have:=args_of h
 unfold ring_clone
 rw [chk_pos (by simp [apOk]; omega)]
theorem put_K2 {x : RRec} {o : ring_Ring} {m : Nat} (hx : reFits x = true) (h : RingOk o m) (hm : m≤1000) {a5 : Bool} {a6 a7 a8 : Int} (h6 : InR .i64 a6) (h7 : InR .u64 a7) :
  ∃ r,ring_Ring_Put_a1_K2 x o a5 a6 a7 a8 = some r∧RingOk r.2.2 (m + 1):=by
 have hl:=h.len
 unfold ring_Ring_Put_a1_K2
 rw [clone_some hx,Option.bind_some,chk_pos (by constructor <;> simp [apOk] <;> omega)]
 have hsz : record_Size x = some ((recBytes (reOf x)).length : Int):=chk_pos hx
 rw [hsz,Option.bind_some]
 generalize IntKind.wrap .i64 (o.gused + ((recBytes (reOf x)).length : Int)) = u0
 have hall : ∀ r∈o.glist++[x],reFits r = true:=fun r hr=>by
  rcases List.mem_append.1 hr with q | q
  ·exact h.list r q
  ·simp only [List.mem_singleton] at q; subst q; exact hx
 have hL : (o.glist++[x]).length≤m + 1:=by simp; omega
 generalize hg : o.glist++[x] = L at hall hL
 obtain ⟨e,e1,e2⟩ := whileM_ind (E:=Int × Int) (step:=fun s=>ring_Ring_Put_a1_L4 o x s.1 s.2) (s0:=((0 : Int),u0)) (fun s=>0≤s.1∧s.1≤(L.length : Int)) (fun s=>((L.length : Int) - s.1).toNat) (fun e=>0≤e.1∧e.1≤(L.length : Int)) ⟨by simp,by simp⟩ (by simp; omega) (fun s hs=>by
  obtain ⟨n,u⟩ := s
  simp only at hs ⊢
  unfold ring_Ring_Put_a1_L4
  rw [hg]
  by_cases hlt : n < (L.length : Int)
  ·obtain ⟨v,v1,v2⟩ := idx_lt_some hs.1 hlt
   have hv : reFits v = true:=hall v (List.mem_of_getElem? v2)
   have hsv : record_Size v = some ((recBytes (reOf v)).length : Int):=chk_pos hv
   rw [v1]
   simp only [hlt,decide_true,Bool.true_and,Option.bind_some,hsv]
   rw [wrap_i64 (by omega) (by omega)]
   by_cases hc : o.gcapacity < u
   ·simp only [gb,hc,decide_true,Bool.not_true,Bool.false_eq_true,if_false,Option.bind_some,Bool.true_or,if_true]
    exact .inl ⟨_,rfl,by simp only; omega,by simp only; omega⟩
   ·simp only [gb,hc,decide_false,Bool.not_false,if_true,Option.bind_some,Bool.false_or]
    by_cases hw : (v.gWhat == 2) = true
    ·rw [if_pos hw]
     exact .inl ⟨_,rfl,by simp only; omega,by simp only; omega⟩
    ·rw [if_neg hw]
     exact .inr ⟨_,rfl,by simp only; omega⟩
  ·simp only [hlt,decide_false,Bool.false_and,gb,Bool.false_eq_true,if_false,Option.bind_some]
   exact .inr ⟨_,rfl,by simp only; omega⟩)
 rw [e1,Option.bind_some]
 unfold ring_Ring_Put_a1_K3
 rw [hg,chk_pos (by unfold slOk; omega)]
 refine ⟨_,rfl,⟨fun r hr=>hall r (List.mem_of_mem_drop hr),by simp; omega,h6,h7⟩⟩
theorem put_K1 {x : RRec} {o : ring_Ring} {m : Nat} (hx : reFits x = true) (h : RingOk o m) (hm : m≤1000) {a5 : Bool} {a6 a7 : Int} (h6 : InR .i64 a6) (h7 : InR .u64 a7) :
  ∃ r,ring_Ring_Put_a1_K1 x o a5 a6 a7 = some r∧RingOk r.2.2 (m + 1):=by
 unfold ring_Ring_Put_a1_K1
 split
 ·exact put_K2 hx h hm h6 h7
 ·exact put_K2 hx h hm h6 h7
theorem fits_cs {x : RRec} (h : reFits x = true) : InR .i64 x.gComponent∧InR .u64 x.gSeq:=by
 unfold reFits at h
 simp only [Bool.and_eq_true,okI_iff] at h
 exact ⟨h.1.1.1.1.1,h.1.1.1.1.2⟩
theorem put_ok {x : RRec} {o : ring_Ring} {m : Nat} (hx : reFits x = true) (h : RingOk o m) (hm : m≤1000) :
  ∃ r,ring_Ring_Put_a1 x o = some r∧RingOk r.2.2 (m + 1):=by
 have h0 : RingOk o (m + 1) := ⟨h.list,by have:=h.len; omega,h.comp,h.first⟩
 unfold ring_Ring_Put_a1
 have hc : record_Check x = some (checkN (reOf x)):=chk_pos hx
 rw [hc,Option.bind_some]
 split
 ·exact ⟨_,rfl,h0⟩
 ·split
  ·exact ⟨_,rfl,h0⟩
  ·split
   ·exact put_K1 hx h hm (fits_cs hx).1 (fits_cs hx).2
   ·exact put_K1 hx h hm h.comp h.first
theorem lostR_fits {c q n : Int} (hc : InR .i64 c) (hq : InR .u64 q) (hn : InR .u64 n) : reFits (RRec.mk c q (VClk.mk (arr 0 [0,0,0,0,0,0,0,0,0,0,0,0,0,0,0,0])) 2 (AEv.mk 0 0 0 0 0 0 0 0 []) n) = true:=by
 unfold reFits ckFits
 simp only [Bool.and_eq_true,List.all_eq_true,okI_iff,List.mem_range]
 refine ⟨⟨⟨⟨⟨hc,hq⟩,fun i hi=>?_⟩,by decide⟩,by decide⟩,hn⟩
 rw [arr0]
 exact ⟨by simp,by simp⟩
theorem lost_some {o : ring_Ring} : ∃ v,ring_Ring_Lost_a o = some v∧InR .u64 v:=by
 unfold ring_Ring_Lost_a
 by_cases h : ((List.length o.glist : Int) == 0) = true
 ·rw [if_pos h]; exact ⟨_,rfl,wrap_R _⟩
 ·rw [if_neg h]
  have h0 : 0 < o.glist.length:=by
   rcases Nat.eq_zero_or_pos o.glist.length with q | q
   ·exact absurd (by rw [q]; rfl) h
   ·exact q
  obtain ⟨v,v1,v2⟩ := idx_lt_some (xs:=o.glist) (i:=0) (by omega) (by omega)
  rw [v1,Option.bind_some]
  exact ⟨_,rfl,wrap_R _⟩
theorem recs_K1 {o : ring_Ring} {m : Nat} (h : RingOk o m) (hm : m≤1000) {l : List RRec} (hl : l.length≤1) (hf : ∀ r∈l,reFits r = true) :
  ∃ q,ring_Ring_Records_a_K1 o l = some q∧q.length≤m + 1∧∀ r∈q,reFits r = true:=by
 have hlen:=h.len
 unfold ring_Ring_Records_a_K1
 rw [foldM_spec (S:=List RRec) o.glist.length (fun k=>l++o.glist.take k) (by simp) rfl (by omega) (fun j hj=>by
  unfold ring_Ring_Records_a_L3
  have hx : o.glist[j]? = some o.glist[j]:=List.getElem?_eq_getElem hj
  have hr:=h.list _ (List.getElem_mem hj)
  generalize o.glist[j] = x at hx hr
  rw [idx_nat,hx,Option.bind_some,clone_some hr,Option.bind_some,chk_pos (by simp [apOk]; omega),List.take_add_one,hx,← List.append_assoc]; rfl)]
 rw [Option.bind_some,List.take_length]
 refine ⟨_,rfl,by simp; omega,fun r hr=>?_⟩
 rcases List.mem_append.1 hr with z | z
 ·exact hf r z
 ·exact h.list r z
theorem recs_ok {o : ring_Ring} {m : Nat} (h : RingOk o m) (hm : m≤1000) : ∃ q,ring_Ring_Records_a o = some q∧q.length≤m + 1∧∀ r∈q,reFits r = true:=by
 obtain ⟨v,v1,v2⟩ := lost_some (o:=o)
 unfold ring_Ring_Records_a
 rw [v1,Option.bind_some]
 split
 ·rw [chk_pos (by simp [apOk])]
  exact recs_K1 h hm (by simp) (fun r hr=>by
   simp only [List.mem_singleton] at hr; subst hr
   exact lostR_fits h.comp h.first v2)
 ·exact recs_K1 h hm (by simp) (fun r hr=>by cases hr)
end Go.Proofs.YtifaebmmbpkclaaGreatDoor
namespace Go.Proofs.YtifaebmmbpkclaaGreatDoor
def frB (r : RRec) : List Int:=frameOf (recBytes (reOf r))
theorem frB_len {r : RRec} (h : reFits r = true) : (frB r).length≤408:=by
 have:=recBytes_small (reFits_T h).1
 unfold frB
 rw [frameOf_len]; omega
theorem frs_len {rs : List RRec} (h : ∀ r∈rs,reFits r = true) : (rs.flatMap frB).length≤408 * rs.length:=by
 induction rs with
 | nil=>simp
 | cons r rs ih=>
  have h1:=frB_len (h r List.mem_cons_self)
  have h2:=ih (fun x hx=>h x (List.mem_cons_of_mem _ hx))
  simp only [List.flatMap_cons,List.length_append,List.length_cons]
  omega
theorem frame_step {rs : List RRec} (h : ∀ r∈rs,reFits r = true) (hl : rs.length≤1000) {j : Nat} {x : RRec} (hx : rs[j]? = some x) :
  RRec_Bytes x = some (recBytes (reOf x))∧frame_Append ((rs.take j).flatMap frB) (recBytes (reOf x)) = some ((rs.take (j + 1)).flatMap frB,0):=by
 have hf:=h x (List.mem_of_getElem? hx)
 have hs:=recBytes_small (reFits_T hf).1
 have ht:=frs_len (rs:=rs.take j) (fun r hr=>h r (List.mem_of_mem_take hr))
 have htl : (rs.take j).length≤1000:=by simp; omega
 refine ⟨chk_pos hf,?_⟩
 rw [append_eq _ _ (by omega) (by omega),List.take_add_one,hx]
 simp [frB]
def endR (x2 n : Int) : RRec:=RRec.mk x2 n (VClk.mk (arr 0 [0,0,0,0,0,0,0,0,0,0,0,0,0,0,0,0])) 3 (AEv.mk 0 0 0 0 0 0 0 0 []) 0
theorem endR_fits {c q : Int} (hc : InR .i64 c) (hq : InR .u64 q) : reFits (endR c q) = true:=by
 unfold reFits ckFits endR
 simp only [Bool.and_eq_true,List.all_eq_true,okI_iff,List.mem_range]
 refine ⟨⟨⟨⟨⟨hc,hq⟩,fun i hi=>?_⟩,by decide⟩,by decide⟩,by decide⟩
 rw [arr0]
 exact ⟨by simp,by simp⟩
theorem write_K2 {x2 : Int} {v2 : List RRec × Int} {a : List RRec} (hx2 : InR .i64 x2) (hl : a.length≤500) (h : ∀ r∈a,reFits r = true) :
  recorder_Write_K2 x2 v2 a = some ((a++[endR x2 (IntKind.wrap .u64 (v2.1.length : Int))]).flatMap frB,0):=by
 have hall : ∀ r∈a++[endR x2 (IntKind.wrap .u64 (v2.1.length : Int))],reFits r = true:=fun r hr=>by
  rcases List.mem_append.1 hr with q | q
  ·exact h r q
  ·simp only [List.mem_singleton] at q; subst q; exact endR_fits hx2 (wrap_R _)
 have hL : (a++[endR x2 (IntKind.wrap .u64 (v2.1.length : Int))]).length≤1000:=by simp; omega
 unfold recorder_Write_K2
 rw [chk_pos ⟨rfl,rfl⟩,chk_pos (by constructor <;> simp [apOk] <;> omega)]
 have:=forM_next (S:=List Int) (E:=List Int × Int) (mx:=9223372036854775807) (n:=((a++[endR x2 (IntKind.wrap .u64 (v2.1.length : Int))]).length : Int)) (body:=fun k10 s=>recorder_Write_L4 x2 v2 a k10 s) (s0:=[]) (a++[endR x2 (IntKind.wrap .u64 (v2.1.length : Int))]).length
  (fun k=>((a++[endR x2 (IntKind.wrap .u64 (v2.1.length : Int))]).take k).flatMap frB) rfl rfl (by omega) (fun j hj=>by
   unfold recorder_Write_L4
   have hx : (a++[endR x2 (IntKind.wrap .u64 (v2.1.length : Int))])[j]? = some _:=List.getElem?_eq_getElem hj
   have hst:=frame_step hall hL hx
   generalize (a++[endR x2 (IntKind.wrap .u64 (v2.1.length : Int))])[j] = x at hx hst
   show (idx (a++[endR x2 (IntKind.wrap .u64 (v2.1.length : Int))]) (j : Int)).bind _ = _
   rw [idx_nat,hx,Option.bind_some,hst.1,Option.bind_some,hst.2]
   rfl)
 rw [List.take_length] at this
 show (forM' (E:=List Int × Int) 9223372036854775807 ((a++[endR x2 (IntKind.wrap .u64 (v2.1.length : Int))]).length : Int) (fun k10 s=>recorder_Write_L4 x2 v2 a k10 s) []).bind _ = _
 rw [this]; rfl
theorem ring_two {x2 c : Int} {w : List rootcauseref24_Rec × Int} {a : List RRec} (hl : a.length≤400) (h : ∀ r∈a,reFits r = true) (hc : 0 < c) :
  ∃ t,recorder_newest a c = some t∧(t.2≠0→t.1 = []∧rootcauselaw28_expect_K2 x2 ⟨c,0⟩ w a = some ([],t.2))∧(t.2 = 0→t.1.length≤500∧(∀ r∈t.1,reFits r = true)∧rootcauselaw28_expect_K2 x2 ⟨c,0⟩ w a = rootcauselaw28_expect_K3 x2 w t.1):=by
 unfold recorder_newest rootcauselaw28_expect_K2
 rw [if_pos (by simpa using hc)]
 have hn : ring_New c = some (.inl (ring_Ring.mk c 0 [] false 0 0 0)):=by
  unfold ring_New
  rw [if_neg (by simp; omega)]
 rw [hn]
 simp only [Option.bind_some]
 have key:=forM_two (S:=Int × Int × List RRec × Bool × Int × Int × Int) (S' := Int × Int × List RRec × Bool × Int × Int × Int) (E:=List RRec × Int) (E' := List RRec × Int) (mx:=9223372036854775807) (n:=(a.length : Int)) (n' := (a.length : Int))
  (b:=fun k13 s=>recorder_newest_L2 a k13 s.1 s.2.1 s.2.2.1 s.2.2.2.1 s.2.2.2.2.1 s.2.2.2.2.2.1 s.2.2.2.2.2.2) (b' := fun k22 s=>rootcauselaw28_expect_L5 a k22 s.1 s.2.1 s.2.2.1 s.2.2.2.1 s.2.2.2.2.1 s.2.2.2.2.2.1 s.2.2.2.2.2.2) (s:=(c,0,[],false,0,0,0)) (s' := (c,0,[],false,0,0,0))
  (fun k s s'=>s' = s∧RingOk (ring_Ring.mk s.1 s.2.1 s.2.2.1 s.2.2.2.1 s.2.2.2.2.1 s.2.2.2.2.2.1 s.2.2.2.2.2.2) k) (fun e e'=>e' = e∧e.1 = []∧e.2≠0) a.length rfl rfl (by omega) ⟨rfl,⟨fun r hr=>(by cases hr),by simp,show InR .i64 0 by decide,show InR .u64 0 by decide⟩⟩ (fun k s s' hk ⟨i1,i2⟩=>by
   subst i1
   have hx : a[k]? = some a[k]:=List.getElem?_eq_getElem hk
   have hf:=h _ (List.getElem_mem hk)
   generalize a[k] = x at hx hf
   obtain ⟨r,r1,r2⟩ := put_ok hf i2 (by omega)
   unfold recorder_newest_L2 rootcauselaw28_expect_L5
   rw [idx_nat,hx]
   simp only [Option.bind_some]
   rw [r1]
   simp only [Option.bind_some]
   by_cases he : (r.2.1 != 0) = true
   ·rw [if_pos he]
    exact .inr ⟨_,_,rfl,rfl,rfl,rfl,by simpa using he⟩
   ·rw [if_neg he]
    exact .inl ⟨_,_,rfl,rfl,rfl,r2⟩)
 rcases key with ⟨t,t',k1,k2,rfl,k3⟩ | ⟨e,e',k1,k2,rfl,k3,k4⟩
 ·rw [k1,k2]
  obtain ⟨q,q1,q2,q3⟩ := recs_ok k3 (by omega)
  simp only [Option.bind_some]
  unfold recorder_newest_K1 rootcauselaw28_expect_K4
  rw [q1]
  exact ⟨(q,0),rfl,fun h=>absurd rfl h,fun _=>⟨by show q.length≤500; omega,q3,rfl⟩⟩
 ·rw [k1,k2]
  exact ⟨e',rfl,fun _=>⟨k3,by simp only [Option.bind_some]; rw [← k3]⟩,fun h=>absurd h k4⟩
theorem tail_two {x2 c b : Int} {v2 : List RRec × Int} {w : List rootcauseref24_Rec × Int} {a : List RRec} (hx2 : InR .i64 x2) (hvw : v2.1.length = w.1.length) (hl : a.length≤400) (h : ∀ r∈a,reFits r = true) :
  ∃ p q,recorder_Write_K1 x2 ⟨c,b⟩ v2 a = some p∧rootcauselaw28_expect_K2 x2 ⟨c,b⟩ w a = some q∧p.2 = q.2∧(q.2≠0→p.1 = [])∧(q.2 = 0→q.1.length≤1000∧(∀ r∈q.1,reFits r = true)∧p.1 = q.1.flatMap frB):=by
 have fin : ∀ t : List RRec,t.length≤500→(∀ r∈t,reFits r = true)→∃ p q,recorder_Write_K2 x2 v2 t = some p∧rootcauselaw28_expect_K3 x2 w t = some q∧p.2 = q.2∧(q.2≠0→p.1 = [])∧(q.2 = 0→q.1.length≤1000∧(∀ r∈q.1,reFits r = true)∧p.1 = q.1.flatMap frB):=by
  intro t ht hf
  rw [write_K2 hx2 ht hf]
  unfold rootcauselaw28_expect_K3
  rw [chk_pos (by simp [apOk]; omega),hvw]
  refine ⟨_,_,rfl,rfl,rfl,fun h=>absurd rfl h,fun _=>⟨by simp; omega,fun r hr=>?_,rfl⟩⟩
  rcases List.mem_append.1 hr with q | q
  ·exact hf r q
  ·simp only [List.mem_singleton] at q; subst q; exact endR_fits hx2 (wrap_R _)
 unfold recorder_Write_K1
 by_cases hc : 0 < c
 ·obtain ⟨t,t1,t2,t3⟩ := ring_two (x2:=x2) (w:=w) hl h hc
  have hb : rootcauselaw28_expect_K2 x2 ⟨c,b⟩ w a = rootcauselaw28_expect_K2 x2 ⟨c,0⟩ w a:=rfl
  rw [if_pos (by simpa using hc),hb]
  show ∃ p q,(recorder_newest a c).bind _ = _∧_
  rw [t1]
  simp only [Option.bind_some]
  by_cases he : t.2 = 0
  ·obtain ⟨h1,h2,h3⟩ := t3 he
   rw [if_neg (by simp [he]),h3]
   exact fin t.1 h1 h2
  ·obtain ⟨h1,h2⟩ := t2 he
   rw [if_pos (by simpa using he),h2]
   exact ⟨_,_,rfl,rfl,rfl,fun _=>rfl,fun h=>absurd h he⟩
 ·unfold rootcauselaw28_expect_K2
  rw [if_neg (by simpa using hc),if_neg (by simpa using hc)]
  exact fin a (by omega) h
theorem bytes_self (xs : List Int) (h : xs.length≤1000000) : slices_Equal_byte_byte xs xs = some true:=by
 unfold slices_Equal_byte_byte
 rw [if_neg (by simp)]
 rw [forM_next (S:=Unit) xs.length (fun _=>()) rfl rfl (by omega) (fun j hj=>by
  unfold slices_Equal_byte_byte_L2
  have hx : xs[j]? = some xs[j]:=List.getElem?_eq_getElem hj
  simp only [idx_nat,hx,Option.bind_some]
  rw [if_neg (by simp)])]
 rfl
theorem awake28 : rootcauselaw28_awake = some true:=by kernel_rfl
theorem recorderWrites_plain (x0 : List AEv) (x1 : Nat→Int) (x2 : recorder_Config) (hl : x0.length≤9223372036854775807) (h0 : ∀ e∈x0,AEvR e) (h1 : InR .i64 (x1 1)) (hB : InR .i64 x2.gBudget) : rootcauselaw28_RecorderWrites x0 x1 x2 = some true:=by
 obtain ⟨l,e1,e2,e3⟩ := few_ok x0 hl
 obtain ⟨r,w,r1,r2,r3,r4,r5,r6,r7⟩ := records_two (x1:=x1 0) (x2:=x1 1) e2 (few_fits h0 e3) h1
 have goal : ∃ p q,recorder_Write l (x1 0) (x1 1) x2 = some p∧rootcauselaw28_expect l (x1 0) (x1 1) x2 = some q∧p.2 = q.2∧(q.2≠0→p.1 = [])∧(q.2 = 0→q.1.length≤1000∧(∀ r∈q.1,reFits r = true)∧p.1 = q.1.flatMap frB):=by
  unfold recorder_Write rootcauselaw28_expect
  rw [r1,r2]
  simp only [Option.bind_some]
  rw [r3]
  by_cases he : w.2 = 0
  ·have hz : ¬ ((w.2 != 0) = true):=by simp [he]
   rw [if_neg hz,if_neg hz]
   by_cases hneg : (decide (x2.gCapacity < 0) || decide (x2.gBudget < 0)) = true
   ·rw [if_pos hneg,if_pos hneg]
    exact ⟨([],1),([],1),rfl,rfl,rfl,fun _=>rfl,fun h=>absurd h (by decide)⟩
   ·rw [if_neg hneg,if_neg hneg]
    have hw : r.1 = w.1.map convR:=by
     refine List.ext_getElem? fun i=>?_
     rw [List.getElem?_map]
     cases hi : r.1[i]? with
     | none=>
      have : w.1[i]? = none:=by
       rw [List.getElem?_eq_none_iff] at hi ⊢; omega
      rw [this]; rfl
     | some a=>
      have hlt:=(List.getElem?_eq_some_iff.1 hi).1
      have hb : w.1[i]? = some (w.1[i]'(by omega)):=List.getElem?_eq_getElem (by omega)
      rw [hb]
      simp only [Option.map_some]
      rw [conv_eq (r6 i _ _ hi hb)]
    have hel : ∀ (i : Nat) b,w.1[i]? = some b→b.gWhat = 1∧b.gSeq = (i : Int)∧0≤b.gComponent∧b.gComponent≤8∧b.gClock.length≤16∧reFits (convR b) = true∧validB (reOf (convR b)) = true:=by
     intro i b hb
     have ha : r.1[i]? = some (convR b):=by rw [hw,List.getElem?_map,hb]; rfl
     obtain ⟨q1,q2,q3,q4,q5,q6⟩ := r7 (by rw [r3]; exact he) i _ ha
     have hs:=r6 i _ _ ha hb
     have hcomp : inB (reOf (convR b)).comp 8 = true:=by
      unfold validB at q6
      rw [Bool.and_eq_true] at q6
      exact q6.2
     unfold inB at hcomp
     have hcomp:=of_decide_eq_true hcomp
     exact ⟨q1,q2,hcomp.1,hcomp.2,hs.cl16,q5,q6⟩
    have hcl : ∀ b∈w.1,b.gClock.length≤16:=fun b hb=>by
     obtain ⟨i,hi⟩ := List.mem_iff_getElem?.1 hb
     exact (hel i b hi).2.2.2.2.1
    have hfw : ∀ x∈w.1.map convR,reFits x = true∧validB (reOf x) = true:=fun x hx=>by
     obtain ⟨b,hb,rfl⟩ := List.mem_map.1 hx
     obtain ⟨i,hi⟩ := List.mem_iff_getElem?.1 hb
     exact (hel i b hi).2.2.2.2.2
    have hwl : w.1.length≤20:=by omega
    obtain ⟨c,b⟩ := x2
    by_cases hbud : (decide (0 < b)) = true
    ·rw [if_pos hbud,if_pos hbud,conv_L8 (by omega) hcl]
     have hplan:=plan_eq (rs:=w.1.map convR) (fun x hx=>rfit_of (hfw x hx).1 (hfw x hx).2) (by simp; omega) (x:=b) hB
     generalize hk : keepL (cfOf (w.1.map convR)) (w.1.map convR).length (planM (cfOf (w.1.map convR)) (sfOf (w.1.map convR)) (w.1.map convR).length b).1 = keep at hplan
     generalize (planM (cfOf (w.1.map convR)) (sfOf (w.1.map convR)) (w.1.map convR).length b).2 = u at hplan
     have hkl : keep.length = w.1.length:=by rw [← hk]; simp [keepL]
     obtain ⟨ds,d1,d2,d3,d4⟩ := thin_drop (u:=u) hkl hwl (fun i b hb=>by
      obtain ⟨q1,q2,q3,q4,q5,q6,_⟩ := hel i b hb
      exact ⟨q1,q2,q3,q4,q5,q6⟩)
     have hthin : recorder_thin r.1 b = some (ds.map convR):=by
      unfold recorder_thin
      rw [hw,hplan]
      simp only [Option.bind_some]
      rw [d2]; rfl
     have hK7 : rootcauselaw28_expect_K7 (x1 1) ⟨c,b⟩ w (w.1.map convR) = rootcauselaw28_expect_K2 (x1 1) ⟨c,b⟩ w (ds.map convR):=by
      unfold rootcauselaw28_expect_K7
      show (budget_Plan (w.1.map convR) b).bind _ = _
      rw [hplan]
      simp only [Option.bind_some]
      rw [if_neg (by simp [hkl]),d1]
      simp only [Option.bind_some]
      unfold rootcauselaw28_expect_K1
      rw [conv_L6 (by omega) (fun d hd=>(d4 d hd).1)]; rfl
     show ∃ p q,(recorder_thin r.1 b).bind _ = _∧_
     rw [hthin]
     simp only [Option.bind_some]
     rw [hK7]
     exact tail_two h1 r4 (by simp; omega) (fun x hx=>by
      obtain ⟨d,hd,rfl⟩ := List.mem_map.1 hx
      exact (d4 d hd).2)
    ·rw [if_neg hbud,if_neg hbud]
     unfold rootcauselaw28_expect_K1
     rw [conv_L6 (by omega) hcl]
     simp only [Option.bind_some]
     have:=tail_two (x2:=x1 1) (c:=c) (b:=b) (v2:=r) (w:=w) (a:=r.1) h1 r4 (by omega) (fun x hx=>by rw [hw] at hx; exact (hfw x hx).1)
     rw [← hw]
     exact this
  ·have hz : (w.2 != 0) = true:=by simpa using he
   rw [if_pos hz,if_pos hz]
   exact ⟨([],w.2),([],w.2),rfl,rfl,rfl,fun _=>rfl,fun h=>absurd h he⟩
 obtain ⟨p,q,p1,p2,p3,p4,p5⟩ := goal
 unfold rootcauselaw28_RecorderWrites
 rw [awake28,Option.bind_some,if_neg (by simp),e1,Option.bind_some,p1,Option.bind_some,p2,Option.bind_some]
 by_cases he : q.2 = 0
 ·obtain ⟨k1,k2,k3⟩ := p5 he
  rw [if_neg (by simp [he])]
  have:=forM_next (S:=List Int) (E:=Bool) (mx:=9223372036854775807) (n:=(q.1.length : Int)) (body:=fun k14 s=>rootcauselaw28_RecorderWrites_L2 q k14 s) (s0:=[]) q.1.length (fun k=>(q.1.take k).flatMap frB) rfl rfl (by omega) (fun j hj=>by
   unfold rootcauselaw28_RecorderWrites_L2
   have hx : q.1[j]? = some q.1[j]:=List.getElem?_eq_getElem hj
   have hst:=frame_step k2 k1 hx
   generalize q.1[j] = x at hx hst
   rw [idx_nat,hx,Option.bind_some,hst.1,Option.bind_some,hst.2]
   rfl)
  rw [List.take_length] at this
  rw [this]
  simp only [Option.bind_some]
  unfold rootcauselaw28_RecorderWrites_K1
  have hpl : p.1.length≤1000000:=by
   have:=frs_len k2
   rw [k3]; omega
  rw [p3,he,← k3,bytes_self _ hpl]
  rfl
 ·rw [if_pos (by simpa using he),p3,p4 he]
  simp
end Go.Proofs.YtifaebmmbpkclaaGreatDoor
