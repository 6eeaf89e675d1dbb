/- Text E1 of this seat: written by a program of ours, or by hand; checked by Lean. -/
import Derived.Calls
import Derived.KernelRfl
import Derived.Orders
import Derived.Lib.Bytealg
set_option linter.unusedVariables false
namespace Go.En

/-! -/
inductive Ty where
 | int (k : IntKind) | bool | str | pair (a b : Ty) | slice (e : TypeId) (t : Ty) | err | eint (t : TypeId) (k : IntKind)
 deriving DecidableEq
abbrev Bs := List UInt8
@[reducible] def Ty.T : Ty → Type
 | .int _ => Int
 | .bool => Bool
 | .str => Bs
 | .pair a b => a.T × b.T
 | .slice _ t => List t.T
 | .err => Bool
 | .eint _ _ => Option Int
def Ty.dec : (t : Ty) → DecidableEq t.T
 | .int _ => inferInstanceAs (DecidableEq Int)
 | .bool => inferInstanceAs (DecidableEq Bool)
 | .str => inferInstanceAs (DecidableEq (List UInt8))
 | .pair a b => @instDecidableEqProd a.T b.T a.dec b.dec
 | .slice _ t => @instDecidableEqList t.T t.dec
 | .err => inferInstanceAs (DecidableEq Bool)
 | .eint _ _ => inferInstanceAs (DecidableEq (Option Int))
def Ty.size : Ty → Nat
 | .pair a b => a.size + b.size
 | _ => 1
def Ty.mask : Ty → List Bool
 | .pair a b => a.mask ++ b.mask
 | .slice _ _ => [true]
 | _ => [false]
def Ty.nsl (t : Ty) : Nat := t.mask.countP id
def lnum (t : Ty) (k off : Nat) : Nat := k * t.nsl + (t.mask.take off).countP id

inductive D where
 | int (k : IntKind) (n : Int)
 | bool (b : Bool)
 | str (s : Bs)
 | isl (e : TypeId) (t : Ty) (l : List t.T)
 | nsl
 | vec (i : Nat)
 | sub (i lo hi sz : Nat)
 | bsl (i n : Nat)
 | asl (i off m n : Nat)
 | ptr (i off : Nat)
 | iptr (t : Ty) (x : t.T) (off : Nat)
 | elt (i k sz off : Nat)
 | iv (i g k sz off : Nat)
 | ielt (i g k sz off n es o : Nat)
 | gptr (g off : Nat)
 | fn (f : FuncId) (first caps : List D)
 | fsel (k : Nat) (fs : List FuncId) (first caps : List D)
 | nilp | nilf
 | ierr (b : Bool)
 | eint (t : TypeId) (k : IntKind) (o : Option Int)
 | ub (f : Bool)
 | np (i off : Nat)
 | sdp (i : Nat)
 | agg (cs : List D)
 | tup (vs : List D)
 | yld (i : Nat) (tm : List D)
 | nxt (b : Bool) (ds : List D)
 | mapp (i : Nat)
 | skip
 | any
def Ty.cells : (t : Ty) → t.T → List D
 | .int k, n => [.int k n]
 | .bool, b => [.bool b]
 | .str, s => [.str s]
 | .pair a b, x => a.cells x.1 ++ b.cells x.2
 | .slice e t, l => [.isl e t l]
 | .err, b => [.ierr b]
 | .eint t k, o => [.eint t k o]
def D.cells : D → List D
 | .agg cs => cs
 | d => [d]

inductive Ob where
 | box (t : TypeId) (cs : List D)
 | vec (mk : Bool) (e : TypeId) (t : Ty) (l : List t.T)
 | dv (e : TypeId) (t : Ty) (l : List t.T) (own : Option Nat) (g : Nat) (out : Option (Nat × Nat))
 | bld (T e : TypeId) (s : Bs)
 | sit (s : Bs) (pos : Nat)
 | mp (kt t : Ty) (l : List (kt.T × t.T))
 | lp
 | gone
structure St where
 tm : List D
 ob : List Ob

/-! -/
inductive Pat where
 | ty (t : Ty) | cells (t : Ty) | agg (t : Ty) | aggn (n : Nat)
 | vec (j : Nat) | ptr (j off : Nat) | bsl (j n : Nat) | gptr (g off : Nat)
 | fn (f : FuncId) (first caps : List (Nat × Nat))
 | nsl | nilp | nilf | skip | any
 | np (j off : Nat)
 | yldn (j n : Nat)
 | sub (j sz : Nat)
 | fns (f : FuncId)
 | mapp (j : Nat)
 | fsel (fs : List FuncId) (first caps : List (Nat × Nat))
def axs : Nat → List Pat → List Pat
 | 0, r => r
 | n + 1, r => .any :: axs n r
def sxs : Nat → List Pat → List Pat
 | 0, r => r
 | n + 1, r => .skip :: sxs n r
@[reducible] def zib : List Pat → Type
 | [] => Unit
 | .ty t :: r => t.T × zib r
 | .cells t :: r => t.T × zib r
 | .agg t :: r => t.T × zib r
 | .sub _ _ :: r => (Nat × Nat) × zib r
 | .fns _ :: r => Bs × zib r
 | .fsel _ _ _ :: r => Nat × zib r
 | _ :: r => zib r
inductive OPat where
 | box (t : TypeId) (cs : List Pat)
 | vec (mk : Bool) (e : TypeId) (t : Ty)
 | dv (e : TypeId) (t : Ty)
 | dvo (e : TypeId) (t : Ty)
 | bld (T e : TypeId)
 | sit
 | mp (kt t : Ty)
 | lp
 | gone
@[reducible] def zaa : List OPat → Type
 | [] => Unit
 | .box _ cs :: r => zib cs × zaa r
 | .vec _ _ t :: r => List t.T × zaa r
 | .dv _ t :: r => (Nat × List t.T) × zaa r
 | .dvo _ t :: r => List t.T × zaa r
 | .bld _ _ :: r => Bs × zaa r
 | .sit :: r => (Bs × Nat) × zaa r
 | .mp kt t :: r => List (kt.T × t.T) × zaa r
 | .lp :: r => zaa r
 | .gone :: r => zaa r
structure zcu where
 tm : List Pat
 ob : List OPat
@[reducible] def zcu.T (s : zcu) : Type := zib s.tm × zaa s.ob

def injP (ren : Nat → Nat) : (ps : List Pat) → zib ps → List D
 | [], _ => []
 | .ty t :: r, x => t.cells x.1 ++ injP ren r x.2
 | .cells t :: r, x => t.cells x.1 ++ injP ren r x.2
 | .agg t :: r, x => .agg (t.cells x.1) :: injP ren r x.2
 | .aggn n :: r, x => .agg ((injP ren r x).take n) :: (injP ren r x).drop n
 | .vec j :: r, x => .vec (ren j) :: injP ren r x
 | .ptr j o :: r, x => .ptr (ren j) o :: injP ren r x
 | .bsl j n :: r, x => .bsl (ren j) n :: injP ren r x
 | .gptr g o :: r, x => .gptr g o :: injP ren r x
 | .fn f fi ca :: r, x => .fn f (fi.map fun p => .ptr (ren p.1) p.2) (ca.map fun p => .ptr (ren p.1) p.2) :: injP ren r x
 | .nsl :: r, x => .nsl :: injP ren r x
 | .nilp :: r, x => .nilp :: injP ren r x
 | .nilf :: r, x => .nilf :: injP ren r x
 | .skip :: r, x => .skip :: injP ren r x
 | .any :: r, x => .any :: injP ren r x
 | .np j o :: r, x => .np (ren j) o :: injP ren r x
 | .yldn j n :: r, x => .yld (ren j) ((injP ren r x).take n) :: (injP ren r x).drop n
 | .sub j sz :: r, x => .sub (ren j) x.1.1 x.1.2 sz :: injP ren r x.2
 | .fns f :: r, x => .fn f [.str x.1] [] :: injP ren r x.2
 | .mapp j :: r, x => .mapp (ren j) :: injP ren r x
 | .fsel fs fi ca :: r, x => .fsel x.1 fs (fi.map fun p => .ptr (ren p.1) p.2) (ca.map fun p => .ptr (ren p.1) p.2) :: injP ren r x.2
def injO (ren : Nat → Nat) : (ps : List OPat) → zaa ps → List Ob
 | [], _ => []
 | .box t cs :: r, x => .box t (injP ren cs x.1) :: injO ren r x.2
 | .vec mk e t :: r, x => .vec mk e t x.1 :: injO ren r x.2
 | .dv e t :: r, x => .dv e t x.1.2 (some x.1.1) 0 none :: injO ren r x.2
 | .dvo e t :: r, x => .dv e t x.1 none 0 none :: injO ren r x.2
 | .bld T e :: r, x => .bld T e x.1 :: injO ren r x.2
 | .sit :: r, x => .sit x.1.1 x.1.2 :: injO ren r x.2
 | .mp kt t :: r, x => .mp kt t x.1 :: injO ren r x.2
 | .lp :: r, x => .lp :: injO ren r x
 | .gone :: r, x => .gone :: injO ren r x
def zcu.inj (s : zcu) (x : s.T) : St := ⟨injP id s.tm x.1, injO id s.ob x.2⟩

structure Mt where
 rho : List (Nat × Nat)
 nils : List Nat
 fr : List Nat
def Mt.assign (m : Mt) (j i : Nat) : Option Mt :=
 match m.rho.lookup j with
 | some i' => if i' = i then some m else none
 | none => if m.rho.any (fun p => p.2 == i) || m.nils.contains j then none else some { m with rho := (j, i) :: m.rho }
def Mt.nil (m : Mt) (j : Nat) : Option Mt :=
 match m.rho.lookup j with
 | some _ => none
 | none => some { m with nils := j :: m.nils }
def znz {a b : Ty} (h : a = b) (l : List a.T) : List b.T := h ▸ l
def z7w {a b c d : Ty} (h : a = b) (h' : c = d) (l : List (a.T × c.T)) : List (b.T × d.T) := h ▸ h' ▸ l
def zq8 (k : IntKind) : List D → Option (List Int)
 | [] => some []
 | .int k' n :: r => if k' = k then (zq8 k r).bind fun l => some (n :: l) else none
 | _ => none
def z26 (ob : List Ob) (k : IntKind) (i off m : Nat) : Option (List Int) := match ob.getD i .gone with
 | .box _ cs => if off + m ≤ cs.length then zq8 k ((cs.drop off).take m) else none
 | _ => none
def zso (ob : List Ob) : (t : Ty) → Nat → Nat → Nat → Nat → Option (List t.T)
 | .int k, i, off, m, n => (z26 ob k i off m).bind fun l => some (l.take n)
 | _, _, _, _, _ => none
def zzn (ob : List Ob) (i g k sz off : Nat) : Option D := match ob.getD i .gone with
 | .dv _ t l none g' none => if g' = g ∧ sz = t.size then (l[k]?).bind fun x => (t.cells x)[off]? else none
 | _ => none
def ztw : (t : Ty) → Nat → Option ((_ : TypeId) × (t' : Ty) × (t.T → List t'.T))
 | .pair a b, off => if off < a.size then (match ztw a off with | some ⟨e, t', f⟩ => some ⟨e, t', fun x => f x.1⟩ | none => none) else (match ztw b (off - a.size) with | some ⟨e, t', f⟩ => some ⟨e, t', fun x => f x.2⟩ | none => none)
 | .slice e t, 0 => some ⟨e, t, fun x => x⟩
 | _, _ => none
def zyh {R : Type} (ob : List Ob) (i g k sz off : Nat) (K : TypeId → (t : Ty) → List t.T → Option R) : Option R := match ob.getD i .gone with
 | .dv _ t l none g' none => if g' = g ∧ sz = t.size then (match ztw t off with
   | some ⟨e, t', f⟩ => K e t' ((l[k]?).elim [] f)
   | none => none) else none
 | _ => none
def gw (ob : List Ob) (lend : Bool) : (t : Ty) → D → List Nat → Option (t.T × List Nat)
 | .int k, .int k' n, fr => if k' = k then some (n, fr) else none
 | .bool, .bool b, fr => some (b, fr)
 | .str, .str s, fr => some (s, fr)
 | .err, .ierr b, fr => some (b, fr)
 | .err, .eint _ _ o, fr => some (o.isSome, fr)
 | .eint t k, .eint t' k' o, fr => if t' = t ∧ k' = k then some (o, fr) else none
 | .eint _ _, .ierr b, fr => if b then none else some (none, fr)
 | .slice e t, .isl e' t' l, fr => if h : t' = t then (if e' = e then some (znz h l, fr) else none) else none
 | .slice _ _, .nsl, fr => some ([], fr)
 | .slice e t, .vec i, fr => if lend then (match ob.getD i .gone with
   | .vec _ e' t' l => if h : t' = t then (if e' = e then some (znz h l, i :: fr) else none) else none
   | .dv e' t' l _ _ none => if h : t' = t then (if e' = e then some (znz h l, i :: fr) else none) else none
   | _ => none) else none
 | .slice e t, .iv i g k sz off, fr => if lend then zyh ob i g k sz off (fun e' t' l => if h : t' = t then (if e' = e then some (znz h l, i :: fr) else none) else none) else none
 | .slice e t, .sub i lo hi sz, fr => if lend then (match ob.getD i .gone with
   | .vec _ e' t' l => if h : t' = t then (if e' = e ∧ sz = t.size then some (((znz h l).drop lo).take (hi - lo), i :: fr) else none) else none
   | _ => none) else none
 | .slice _ t, .asl i off m n, fr => if lend then (zso ob t i off m n).bind fun l => some (l, i :: fr) else none
 | _, _, _ => none
def xn (ob : List Ob) (lend : Bool) : (t : Ty) → List D → List Nat → Option (t.T × List D × List Nat)
 | .pair a b, ds, fr => (xn ob lend a ds fr).bind fun x => (xn ob lend b x.2.1 x.2.2).bind fun y => some ((x.1, y.1), y.2.1, y.2.2)
 | .int k, d :: r, fr => (gw ob lend (.int k) d fr).bind fun x => some (x.1, r, x.2)
 | .bool, d :: r, fr => (gw ob lend .bool d fr).bind fun x => some (x.1, r, x.2)
 | .str, d :: r, fr => (gw ob lend .str d fr).bind fun x => some (x.1, r, x.2)
 | .err, d :: r, fr => (gw ob lend .err d fr).bind fun x => some (x.1, r, x.2)
 | .eint t k, d :: r, fr => (gw ob lend (.eint t k) d fr).bind fun x => some (x.1, r, x.2)
 | .slice e t, d :: r, fr => (gw ob lend (.slice e t) d fr).bind fun x => some (x.1, r, x.2)
 | _, [], _ => none
def ki (ob : List Ob) (lend : Bool) (t : Ty) (ds : List D) (fr : List Nat) : Option (t.T × List Nat) :=
 (xn ob lend t ds fr).bind fun x => match x.2.1 with | [] => some (x.1, x.2.2) | _ :: _ => none
def Mt.ptrs (m : Mt) : List (Nat × Nat) → List D → Option Mt
 | [], [] => some m
 | p :: ps, .ptr i o :: ds => if o = p.2 then (m.assign p.1 i).bind fun m => m.ptrs ps ds else none
 | _, _ => none
def z5z (f : FuncId) : D → Option Bs
 | .fn f' [.str s] [] => if f' = f then some s else none
 | _ => none
def zzo : List FuncId → FuncId → Option Nat
 | [], _ => none
 | g :: r, f => if g = f then some 0 else (zzo r f).map (· + 1)
def selM (m : Mt) (fs : List FuncId) (fi ca : List (Nat × Nat)) : D → Option (Nat × Mt)
 | .fn f fi' ca' => (zzo fs f).bind fun k => (m.ptrs fi fi').bind fun m1 => (m1.ptrs ca ca').bind fun m2 => some (k, m2)
 | .nilf => some (fs.length, m)
 | .fsel k fs' fi' ca' => if fs' = fs then (m.ptrs fi fi').bind fun m1 => (m1.ptrs ca ca').bind fun m2 => some (k, m2) else none
 | _ => none
def selR {R : Type} (k : Nat) : List FuncId → (FuncId → Option R) → Option R
 | [], _ => none
 | f :: r, K => _root_.cond (k == 0) (K f) (selR (k - 1) r K)
def zt (ob : List Ob) (lend : Bool) : (ps : List Pat) → List D → Mt → Option (zib ps × Mt)
 | [], [], m => some ((), m)
 | .ty t :: r, d :: ds, m => (gw ob lend t d m.fr).bind fun x => (zt ob lend r ds { m with fr := x.2 }).bind fun y => some ((x.1, y.1), y.2)
 | .cells t :: r, ds, m => (xn ob lend t ds m.fr).bind fun x => (zt ob lend r x.2.1 { m with fr := x.2.2 }).bind fun y => some ((x.1, y.1), y.2)
 | .agg t :: r, .agg cs :: ds, m => (ki ob lend t cs m.fr).bind fun x => (zt ob lend r ds { m with fr := x.2 }).bind fun y => some ((x.1, y.1), y.2)
 | .aggn n :: r, .agg cs :: ds, m => if cs.length = n then zt ob lend r (cs ++ ds) m else none
 | .vec j :: r, .vec i :: ds, m => (m.assign j i).bind fun m => zt ob lend r ds m
 | .vec j :: r, .nsl :: ds, m => (m.nil j).bind fun m => zt ob lend r ds m
 | .ptr j o :: r, .ptr i o' :: ds, m => if o' = o then (m.assign j i).bind fun m => zt ob lend r ds m else none
 | .bsl j n :: r, .bsl i n' :: ds, m => if n' = n then (m.assign j i).bind fun m => zt ob lend r ds m else none
 | .gptr g o :: r, .gptr g' o' :: ds, m => if g' = g ∧ o' = o then zt ob lend r ds m else none
 | .fn f fi ca :: r, .fn f' fi' ca' :: ds, m => if f' = f then (m.ptrs fi fi').bind fun m => (m.ptrs ca ca').bind fun m => zt ob lend r ds m else none
 | .nsl :: r, .nsl :: ds, m => zt ob lend r ds m
 | .nilp :: r, .nilp :: ds, m => zt ob lend r ds m
 | .nilf :: r, .nilf :: ds, m => zt ob lend r ds m
 | .skip :: r, .skip :: ds, m => zt ob lend r ds m
 | .any :: r, _ :: ds, m => zt ob lend r ds m
 | .yldn j n :: r, .yld i ts :: ds, m => if ts.length = n then (m.assign j i).bind fun m => zt ob lend r (ts ++ ds) m else none
 | .sub j sz :: r, .sub i lo hi sz' :: ds, m => if sz' = sz then (m.assign j i).bind fun m => (zt ob lend r ds m).bind fun y => some (((lo, hi), y.1), y.2) else none
 | .fns f :: r, d :: ds, m => (z5z f d).bind fun s => (zt ob lend r ds m).bind fun y => some ((s, y.1), y.2)
 | .mapp j :: r, .mapp i :: ds, m => (m.assign j i).bind fun m => zt ob lend r ds m
 | .fsel fs fi ca :: r, d :: ds, m => (selM m fs fi ca d).bind fun s => (zt ob lend r ds s.2).bind fun y => some ((s.1, y.1), y.2)
 | .np j o :: r, .np i o' :: ds, m => if o' = o then (m.assign j i).bind fun m => zt ob lend r ds m else none
 | .np j _ :: r, .nilp :: ds, m => match m.rho.lookup j with
  | some _ => zt ob lend r ds m
  | none => none
 | .np j o :: r, .ptr i o' :: ds, m => if o' = o then (m.assign j i).bind fun m => zt ob lend r ds m else none
 | _, _, _ => none
def jj (ob : List Ob) (lend : Bool) : Nat → (ps : List OPat) → Mt → Option (zaa ps × Mt)
 | _, [], m => some ((), m)
 | j, .box t cs :: r, m => match m.rho.lookup j with
  | some i => match ob.getD i .gone with
   | .box t' ds => if t' = t then (zt ob lend cs ds m).bind fun x => (jj ob lend (j + 1) r x.2).bind fun y => some ((x.1, y.1), y.2) else none
   | _ => none
  | none => none
 | j, .vec mk e t :: r, m => match m.rho.lookup j with
  | some i => match ob.getD i .gone with
   | .vec mk' e' t' l => if h : t' = t then (if e' = e ∧ mk' = mk then (jj ob lend (j + 1) r m).bind fun y => some ((znz h l, y.1), y.2) else none) else none
   | _ => none
  | none => if m.nils.contains j ∧ mk = false then (jj ob lend (j + 1) r m).bind fun y => some (([], y.1), y.2) else none
 | j, .dv e t :: r, m => match m.rho.lookup j with
  | some i => match ob.getD i .gone with
   | .dv e' t' l own _ none => if h : t' = t then (if e' = e then (jj ob lend (j + 1) r m).bind fun y => some (((own.getD (t.nsl * l.length), znz h l), y.1), y.2) else none) else none
   | .vec false e' t' l => if h : t' = t then (if e' = e then (jj ob lend (j + 1) r m).bind fun y => some (((0, znz h l), y.1), y.2) else none) else none
   | _ => none
  | none => if m.nils.contains j then (jj ob lend (j + 1) r m).bind fun y => some (((0, []), y.1), y.2) else none
 | j, .dvo e t :: r, m => match m.rho.lookup j with
  | some i => match ob.getD i .gone with
   | .dv e' t' l none _ none => if h : t' = t then (if e' = e then (jj ob lend (j + 1) r m).bind fun y => some ((znz h l, y.1), y.2) else none) else none
   | .dv e' t' l (some k) _ none => if h : t' = t then (if e' = e then _root_.cond (k == t.nsl * l.length) ((jj ob lend (j + 1) r m).bind fun y => some ((znz h l, y.1), y.2)) none else none) else none
   | _ => none
  | none => if m.nils.contains j then (jj ob lend (j + 1) r m).bind fun y => some (([], y.1), y.2) else none
 | j, .bld T e :: r, m => match m.rho.lookup j with
  | some i => match ob.getD i .gone with
   | .bld T' e' s => if T' ≠ T ∨ e' ≠ e then none else (jj ob lend (j + 1) r m).bind fun y => some ((s, y.1), y.2)
   | _ => none
  | none => none
 | j, .sit :: r, m => match m.rho.lookup j with
  | some i => match ob.getD i .gone with
   | .sit s p => (jj ob lend (j + 1) r m).bind fun y => some (((s, p), y.1), y.2)
   | _ => none
  | none => none
 | j, .mp kt t :: r, m => match m.rho.lookup j with
  | some i => match ob.getD i .gone with
   | .mp kt' t' l => if h : kt' = kt ∧ t' = t then (jj ob lend (j + 1) r m).bind fun y => some ((z7w h.1 h.2 l, y.1), y.2) else none
   | _ => none
  | none => none
 | j, .lp :: r, m => match m.rho.lookup j with
  | some i => match ob.getD i .gone with
   | .lp => jj ob lend (j + 1) r m
   | _ => none
  | none => none
 | j, .gone :: r, m => jj ob lend (j + 1) r m
def Mt.inside (m : Mt) (m0 n : Nat) : Bool := m.rho.all (fun p => decide (p.1 < m0) || decide (p.1 < n)) && m.nils.all (fun j => decide (j < n)) && decide (m0 ≤ n)
def OPat.alive : OPat → Bool
 | .gone => false
 | _ => true
def idM (m0 : Nat) (os : List OPat) : Mt := ⟨((List.range m0).filter fun i => (os.getD i .gone).alive).map fun i => (i, i), [], []⟩
def Mt.fixes (m : Mt) (m0 : Nat) : Bool := m.rho.all (fun p => decide (m0 ≤ p.1) || p.1 == p.2) && m.nils.all (fun j => decide (m0 ≤ j))
def zcu.proj (m0 : Nat) (s : zcu) (σ : St) : Option s.T :=
 (zt σ.ob false s.tm σ.tm (idM m0 s.ob)).bind fun x => (jj σ.ob false 0 s.ob x.2).bind fun y =>
  if y.2.inside m0 s.ob.length && y.2.fixes m0 then some (x.1, y.1) else none

/-! -/
structure Sig where
 args : List Pat
 obs : List OPat
 res : List Pat
 obs' : List OPat
@[reducible] def Sig.In (s : Sig) : Type := zib s.args × zaa s.obs
@[reducible] def Sig.Out (s : Sig) : Type := zib s.res × zaa s.obs'
structure zf6 where
 sig : Sig
 F : sig.In → Option sig.Out
structure zq9 where
 sigY : Sig
 sig : Sig
 F : (sigY.In → Option sigY.Out) → sig.In → Option sig.Out

/-! -/
inductive Und where
 | bad | iface | map (k e : TypeId) | int (k : IntKind) | bool | str | struct (fs : List (Nat × TypeId)) | slice (e : TypeId) | array (n : Nat) (e : TypeId) | ptr (e : TypeId) | func
structure TI where
 und : Und
 size : Nat
 bytes : Nat
 zero : List Value
 ty : Option Ty
 bld : Option TypeId := none
 deep : Bool := false
inductive Ext where
 | indexByte
structure Env where
 ti : TypeId → TI
 glob : Nat → Option (TypeId × List Value)
 call : FuncId → List zf6
 it : {α β : Type} → (α → Option (α ⊕ β)) → α → Option β
 eqOk : TypeId → Bool
 gerr : Nat → Bool
 ext : FuncId → Option Ext
 gint : Nat → Bool
 yl : Option zf6 := none
 lpAt : Nat := 0
 its : FuncId → List zq9 := fun _ => []
 key2 : TypeId → Bool := fun _ => false
def Und.isBad : Und → Bool
 | .bad => true
 | _ => false
def Und.isAgg : Und → Bool
 | .struct _ => true
 | .array _ _ => true
 | _ => false

def jd {α β : Type} (f : α → Option (α ⊕ β)) : Nat → α → Option β
 | 0, _ => none
 | n + 1, a => (f a).bind fun
  | .inl a' => jd f n a'
  | .inr b => some b
open Classical in
noncomputable def iter {α β : Type} (f : α → Option (α ⊕ β)) (a : α) : Option β :=
 if h : ∃ b n, jd f n a = some b then some (Classical.choose h) else none
open Classical in
noncomputable def recA {α β : Type} (G : Nat → α → Option β) (a : α) : Option β :=
 if h : ∃ b n, G n a = some b then some (Classical.choose h) else none
structure Ev where
 it : {α β : Type} → (α → Option (α ⊕ β)) → α → Option β
 rc : {α β : Type} → (Nat → α → Option β) → α → Option β
noncomputable def Ev.all : Ev := ⟨iter, recA⟩
def Ev.upto (n : Nat) : Ev := ⟨fun f a => jd f n a, fun G a => G n a⟩
structure Ev.OK (V : Ev) : Prop where
 it : ∀ {α β : Type} {f : α → Option (α ⊕ β)} {a : α} {b : β}, V.it f a = some b → ∃ n, jd f n a = some b
 rc : ∀ {α β : Type} {G : Nat → α → Option β} {a : α} {b : β}, V.rc G a = some b → ∃ n, G n a = some b
theorem Ev.all_ok : Ev.all.OK where
 it {α β f a b} h := by
  classical
  have h' : iter f a = some b := h
  unfold iter at h'
  split at h'
  ·rename_i hx
   simp only [Option.some.injEq] at h'
   rw [← h']
   exact Classical.choose_spec hx
  ·cases h'
 rc {α β G a b} h := by
  classical
  have h' : recA G a = some b := h
  unfold recA at h'
  split at h'
  ·rename_i hx
   simp only [Option.some.injEq] at h'
   rw [← h']
   exact Classical.choose_spec hx
  ·cases h'
theorem Ev.upto_ok (n : Nat) : (Ev.upto n).OK := ⟨fun h => ⟨n, h⟩, fun h => ⟨n, h⟩⟩

/-! -/
def idx {α : Type} (l : List α) (i : Int) : Option α := if 0 ≤ i then l[i.toNat]? else none
def maxB : Nat := 140737488355328
def fits (n bytes : Nat) : Bool := decide (n * bytes ≤ maxB)
def zg5 (n : Nat) : Bool := decide (n ≤ maxB)
def zj6 : Value → D
 | .int k n => if k.min ≤ n ∧ n ≤ k.max then .int k n else .any
 | .bool b => .bool b
 | .string s => if s.data.toList.length ≤ maxB then .str s.data.toList else .any
 | .slice none 0 0 => .nsl
 | .nilFunc => .nilf
 | .nilIface => .ierr false
 | .pointer none => .nilp
 | _ => .any
def evD (tm : List D) : Operand → D
 | .tmp t => tm.getD t .any
 | .const v => zj6 v
 | .func f => .fn f [] []
 | .global g => .gptr g 0
variable {R : Type}
def cut (ti : TI) (cs : List D) (off : Nat) (K : D → Option R) : Option R :=
 if ti.und.isBad then none
 else if ti.und.isAgg then (if off + ti.size ≤ cs.length then K (.agg ((cs.drop off).take ti.size)) else none)
 else match cs.drop off with
  | d :: _ => K d
  | [] => none
def zd9 (cs : List D) (off : Nat) (new : List D) : List D := cs.take off ++ new ++ cs.drop (off + new.length)
def zw1 (i g k sz : Nat) : Nat → List D → List D
 | _, [] => []
 | j, .isl _ _ _ :: ds => .iv i g k sz j :: zw1 i g k sz (j + 1) ds
 | j, d :: ds => d :: zw1 i g k sz (j + 1) ds
def anyC : List D → List D
 | [] => []
 | .isl _ _ _ :: ds => .any :: anyC ds
 | d :: ds => d :: anyC ds
def z6z : List D → Bool
 | [] => false
 | .isl _ _ _ :: _ => true
 | _ :: ds => z6z ds
def z27 (E : Env) (ob : List Ob) (t : TypeId) (p : D) (K : D → Option R) : Option R :=
 match p with
 | .ptr i off => match ob.getD i .gone with
  | .box _ cs => cut (E.ti t) cs off K
  | _ => none
 | .iptr ty v off => cut (E.ti t) (ty.cells v) off K
 | .elt i k sz off => match ob.getD i .gone with
  | .vec _ _ ty l => if sz = ty.size then (l[k]?).bind fun v => cut (E.ti t) (ty.cells v) off K else none
  | .dv _ ty l none g none => if sz = ty.size then (l[k]?).bind fun v => cut (E.ti t) (zw1 i g k sz 0 (ty.cells v)) off K else none
  | .dv _ ty l (some m) _ none => if sz = ty.size then (l[k]?).bind fun v => if z6z (((ty.cells v).drop off).take (E.ti t).size) then _root_.cond (decide (m ≤ lnum ty k 0)) (cut (E.ti t) (ty.cells v) off K) none else cut (E.ti t) (anyC (ty.cells v)) off K else none
  | .dv _ ty l _ _ (some _) => if sz = ty.size then (l[k]?).bind fun v => cut (E.ti t) (anyC (ty.cells v)) off K else none
  | _ => none
 | .ielt i g k sz off n es o => zyh ob i g k sz off fun _ ty l => if es = ty.size then (l[n]?).bind fun v => cut (E.ti t) (ty.cells v) o K else none
 | .gptr g off => match E.glob g with
  | some (_, cs) => cut (E.ti t) (cs.map zj6) off K
  | none => match E.gerr g, off, (E.ti t).und with
   | true, 0, .iface => K (.ierr true)
   | _, _, _ => none
 | _ => none
def D.cellOk : D → Bool
 | .yld _ _ | .nxt _ _ => false
 | .agg _ | .tup _ | .any | .skip | .ub _ | .sdp _ => false
 | _ => true
def z0r (t : Ty) (k off : Nat) (own : Option Nat) (K : Option Nat → Option R) : Option R := match own with
 | none => K none
 | some m => _root_.cond (lnum t k off == m) (K (some (m + 1))) none
def zyi (k off : Nat) (out : Option (Nat × Nat)) (K : Option R) : Option R := match out with
 | none => K
 | some (k', off') => if off' = off then _root_.cond (k == k') K none else none
def zg6 : (t : Ty) → t.T → Nat → D → Option t.T
 | .pair a b, x, off, d => if off < a.size then (zg6 a x.1 off d).bind fun y => some (y, x.2) else (zg6 b x.2 (off - a.size) d).bind fun y => some (x.1, y)
 | .slice e t, _, 0, .isl e' t' l => if h : t' = t then (if e' = e then some (znz h l) else none) else none
 | _, _, _, _ => none
def zu4 (ob : List Ob) (i k off : Nat) (e : TypeId) (ty : Ty) (l : List ty.T) (own : Option Nat) (g : Nat) (out : Option (Nat × Nat)) (v : D) (K : List Ob → List Nat → Option R) : Option R :=
 (l[k]?).bind fun x => match ((ty.mask.drop off).take v.cells.length).any id with
  | false => (ki ob false ty (zd9 (ty.cells x) off v.cells) []).bind fun y => K (ob.set i (.dv e ty (l.set k y.1) own g out)) []
  | true => match v with
   | .vec j => match ob.getD j .gone with
    | .vec false e' t' lst => if j ≠ i then (zg6 ty x off (.isl e' t' lst)).bind fun y => z0r ty k off own fun own' => zyi k off out (K ((ob.set i (.dv e ty (l.set k y) own' (g + 1) none)).set j .gone) []) else none
    | _ => none
   | .nsl => match (ty.cells x)[off]? with
    | some (.isl e' t' _) => (zg6 ty x off (.isl e' t' [])).bind fun y => z0r ty k off own fun own' => zyi k off out (K (ob.set i (.dv e ty (l.set k y) own' (g + 1) none)) [])
    | _ => none
   | _ => none
def zyj (ob : List Ob) (i k off n es o : Nat) (e : TypeId) (ty : Ty) (l : List ty.T) (g : Nat) (v : D) (K : List Ob → List Nat → Option R) : Option R :=
 (l[k]?).bind fun x => match (ty.cells x)[off]? with
  | some (.isl e' t' lst) => if es = t'.size ∧ o + v.cells.length ≤ t'.size then (lst[n]?).bind fun y => (ki ob false t' (zd9 (t'.cells y) o v.cells) []).bind fun y' =>
    (zg6 ty x off (.isl e' t' (lst.set n y'.1))).bind fun x' => K (ob.set i (.dv e ty (l.set k x') none g none)) [] else none
  | _ => none
def toDv (deep mk : Bool) (ty : Ty) (off : Nat) (v : D) : Bool := deep && !mk && match v with
 | .vec _ | .nsl => ty.mask.getD off false
 | _ => false
def z28 (E : Env) (ob : List Ob) (t : TypeId) (p v : D) (K : List Ob → List Nat → Option R) : Option R :=
 if (E.ti t).und.isBad = false ∧ v.cells.length = (E.ti t).size ∧ v.cells.all D.cellOk then
  match p with
  | .ptr i off => match ob.getD i .gone with
   | .box t' cs => if off + v.cells.length ≤ cs.length then K (ob.set i (.box t' (zd9 cs off v.cells))) [] else none
   | _ => none
  | .elt i k sz off => match ob.getD i .gone with
   | .vec mk e ty l => if sz = ty.size ∧ off + v.cells.length ≤ ty.size then
     (if toDv (E.ti e).deep mk ty off v then zu4 (ob.set i (.dv e ty l (some 0) 0 none)) i k off e ty l (some 0) 0 none v K else
     (l[k]?).bind fun x => (ki ob true ty (zd9 (ty.cells x) off v.cells) []).bind fun y =>
     if y.2.contains i then none else K (ob.set i (.vec mk e ty (l.set k y.1))) y.2) else none
   | .dv e ty l own g out => if sz = ty.size ∧ off + v.cells.length ≤ ty.size then zu4 ob i k off e ty l own g out v K else none
   | _ => none
  | .ielt i g k sz off n es o => match ob.getD i .gone with
   | .dv e ty l none g' none => if g' = g ∧ sz = ty.size then zyj ob i k off n es o e ty l g v K else none
   | _ => none
  | _ => none
 else none
def rngB (k : IntKind) (n : Int) : Bool := decide (k.min ≤ n) && decide (n ≤ k.max)
def aBin (u : Und) (op : BinOp) (a b : D) (K : D → Option R) : Option R :=
 match op, a, b with
 | .add, .int k x, .int k' y => if k = k' then K (.int k (k.wrap (x + y))) else none
 | .sub, .int k x, .int k' y => if k = k' then K (.int k (k.wrap (x - y))) else none
 | .mul, .int k x, .int k' y => if k = k' then K (.int k (k.wrap (x * y))) else none
 | .quo, .int k x, .int k' y => if k = k' then _root_.cond (y != 0) (K (.int k (k.wrap (x.tdiv y)))) none else none
 | .rem, .int k x, .int k' y => if k = k' then _root_.cond (y != 0 && rngB k (x.tmod y)) (K (.int k (x.tmod y))) none else none
 | .and, .int k x, .int k' y => if k = k' then K (.int k (k.wrap ((BitVec.ofInt k.bits x &&& BitVec.ofInt k.bits y).toNat : Int))) else none
 | .or, .int k x, .int k' y => if k = k' then K (.int k (k.wrap ((BitVec.ofInt k.bits x ||| BitVec.ofInt k.bits y).toNat : Int))) else none
 | .xor, .int k x, .int k' y => if k = k' then K (.int k (k.wrap ((BitVec.ofInt k.bits x ^^^ BitVec.ofInt k.bits y).toNat : Int))) else none
 | .andNot, .int k x, .int k' y => if k = k' then K (.int k (k.wrap ((BitVec.ofInt k.bits x &&& ~~~(BitVec.ofInt k.bits y)).toNat : Int))) else none
 | .shl, .int k x, .int _ y => _root_.cond (decide (0 ≤ y)) (K (.int k (k.wrap (x * 2 ^ (min y.toNat k.bits))))) none
 | .shr, .int k x, .int _ y => _root_.cond (decide (0 ≤ y) && rngB k (x.fdiv (2 ^ (min y.toNat k.bits)))) (K (.int k (x.fdiv (2 ^ (min y.toNat k.bits))))) none
 | .eql, .int k x, .int k' y => if k = k' then K (.bool (x == y)) else none
 | .neq, .int k x, .int k' y => if k = k' then K (.bool (x != y)) else none
 | .lss, .int k x, .int k' y => if k = k' then K (.bool (x < y)) else none
 | .leq, .int k x, .int k' y => if k = k' then K (.bool (x ≤ y)) else none
 | .gtr, .int k x, .int k' y => if k = k' then K (.bool (x > y)) else none
 | .geq, .int k x, .int k' y => if k = k' then K (.bool (x ≥ y)) else none
 | .add, .str x, .str y => _root_.cond (zg5 (x.length + y.length)) (K (.str (x ++ y))) none
 | .eql, .str x, .str y => K (.bool (x == y))
 | .neq, .str x, .str y => K (.bool (!(x == y)))
 | .eql, .bool x, .bool y => match u with
  | .bool => K (.bool (x == y))
  | _ => none
 | .neq, .bool x, .bool y => match u with
  | .bool => K (.bool (!(x == y)))
  | _ => none
 | .eql, x, .nilp => match u, x with
  | .ptr _, .nilp => K (.bool true)
  | .ptr _, .ptr _ _ => K (.bool false)
  | _, _ => none
 | .neq, x, .nilp => match u, x with
  | .ptr _, .nilp => K (.bool false)
  | .ptr _, .ptr _ _ => K (.bool true)
  | _, _ => none
 | _, _, _ => none
def zo7 : Operand → Bool
 | .const .nilIface => true
 | _ => false
def eqFs (E : Env) (cs ds : List D) : List (Nat × TypeId) → Option Bool
 | [] => some true
 | f :: fs => match (E.ti f.2).und, cs[f.1]?, ds[f.1]? with
  | .int k, some (.int k' x), some (.int k'' y) => if k' = k ∧ k'' = k then (eqFs E cs ds fs).bind fun b => some (x == y && b) else none
  | .bool, some (.bool x), some (.bool y) => (eqFs E cs ds fs).bind fun b => some (x == y && b)
  | .str, some (.str x), some (.str y) => (eqFs E cs ds fs).bind fun b => some (x == y && b)
  | _, _, _ => none
def aCmp (E : Env) (ob : List Ob) (ρ : Operand → D) (op : BinOp) (t : TypeId) (x y : Operand) (K : D → Option R) : Option R :=
 match op, (E.ti t).und, ρ x, ρ y with
 | .eql, .struct fs, .agg cs, .agg ds => if E.eqOk t then (eqFs E cs ds fs).bind fun b => K (.bool b) else none
 | .neq, .struct fs, .agg cs, .agg ds => if E.eqOk t then (eqFs E cs ds fs).bind fun b => K (.bool (!b)) else none
 | .eql, .iface, .ierr b, .ierr false => if zo7 y then K (.bool (!b)) else none
 | .neq, .iface, .ierr b, .ierr false => if zo7 y then K (.bool b) else none
 | .eql, .iface, .eint _ _ o, .ierr false => if zo7 y then K (.bool o.isNone) else none
 | .neq, .iface, .eint _ _ o, .ierr false => if zo7 y then K (.bool o.isSome) else none
 | .eql, .iface, .eint t1 k o, .eint t2 k' (some n) => if t1 = t2 ∧ k = k' ∧ E.eqOk t1 = true then (match (E.ti t1).und with | .int k'' => if k'' = k then K (.bool (o == some n)) else none | _ => none) else none
 | .neq, .iface, .eint t1 k o, .eint t2 k' (some n) => if t1 = t2 ∧ k = k' ∧ E.eqOk t1 = true then (match (E.ti t1).und with | .int k'' => if k'' = k then K (.bool (!(o == some n))) else none | _ => none) else none
 | .eql, .slice _, .isl _ _ l, .nsl => K (.ub (!l.isEmpty))
 | .eql, .slice _, .nsl, .nsl => K (.bool true)
 | .eql, .slice _, .vec i, .nsl => match ob.getD i .gone with
  | .vec _ _ _ l => K (.ub (!l.isEmpty))
  | _ => none
 | .eql, .func, .fsel k fs _ _, .nilf => K (.bool (decide (fs.length ≤ k)))
 | .neq, .func, .fsel k fs _ _, .nilf => K (.bool (decide (k < fs.length)))
 | op, u, a, b => aBin u op a b K
def Ty.flat : Ty → Bool
 | .pair a b => a.flat && b.flat
 | .slice _ _ => false
 | _ => true
def Ty.lflat : Ty → Bool
 | .pair a b => a.lflat && b.lflat
 | .slice _ t => t.flat
 | _ => true
def Pat.flat : Pat → Bool
 | .ty t | .cells t | .agg t => t.flat
 | _ => true
def OPat.flat : OPat → Bool
 | .box _ cs => cs.all Pat.flat
 | .vec _ _ t | .dv _ t => t.flat
 | .dvo _ t => t.lflat
 | .mp kt t => kt.flat && t.flat
 | _ => true
def Sig.flat (s : Sig) : Bool := s.res.all Pat.flat && s.obs'.all OPat.flat
def renC (rho : List (Nat × Nat)) (m n j : Nat) : Nat := match rho.lookup j with
 | some i => i
 | none => n + (j - m)
def zra (full : List (Nat × Nat)) : List (Nat × Nat) → Nat → Option Nat
 | [], _ => none
 | p :: ps, i => if p.2 = i ∧ full.lookup p.1 = some i then some p.1 else zra full ps i
def z0s : Ob → Ob → Ob
 | .dv _ _ _ _ g _, .dv e t l own _ out => .dv e t l own (g + 1) out
 | _, o => o
def setO (rho : List (Nat × Nat)) (os : List Ob) : Nat → List Ob → List Ob
 | _, [] => []
 | i, o :: r => (match zra rho rho i with | some j => z0s o (os.getD j .gone) | none => o) :: setO rho os (i + 1) r
def oneD : List D → D
 | [d] => d
 | ds => .tup ds
def lpOk (E : Env) (m : Mt) : List OPat → Bool
 | .lp :: _ => m.rho.lookup 0 == some E.lpAt
 | _ => true
def zud (E : Env) (ob : List Ob) (ds : List D) (K : D → List Ob → List Nat → List Nat → Option R) : List zf6 → Option R
 | [] => none
 | c :: cs => match zt ob true c.sig.args ds ⟨[], [], []⟩ with
  | none => zud E ob ds K cs
  | some x => match jj ob true 0 c.sig.obs x.2 with
   | none => zud E ob ds K cs
   | some y =>
    if lpOk E y.2 c.sig.obs && y.2.nils.isEmpty && y.2.inside 0 c.sig.obs.length && c.sig.obs.all OPat.alive && decide (c.sig.obs.length ≤ c.sig.obs'.length) && y.2.fr.all (fun i => decide (i < ob.length) && !(y.2.rho.any fun p => p.2 == i)) then
     (c.F (x.1, y.1)).bind fun u =>
      K (oneD (injP (renC y.2.rho c.sig.obs.length ob.length) c.sig.res u.1))
       (setO y.2.rho (injO (renC y.2.rho c.sig.obs.length ob.length) c.sig.obs' u.2) 0 ob ++ (injO (renC y.2.rho c.sig.obs.length ob.length) c.sig.obs' u.2).drop c.sig.obs.length)
       (if c.sig.flat then [] else y.2.fr) (y.2.rho.map (·.2))
    else zud E ob ds K cs
def zyk (ob : List Ob) (d : D) (K : List Ob → Option R) : Option R := match d with
 | .iv i g k sz off => match ob.getD i .gone with
  | .dv e ty l none g' none => if g' = g ∧ sz = ty.size then (l[k]?).bind fun x => match (ty.cells x)[off]? with
    | some (.isl e' t' lst) => K (ob.set i (.dv e ty l none (g + 1) (some (k, off))) ++ [.vec false e' t' lst])
    | _ => none
   else none
  | _ => none
 | _ => none
def z1o : List zf6 → Bool
 | c :: _ => match c.sig.args with
  | .vec _ :: _ => true
  | _ => false
 | [] => false
def isIv : D → Bool
 | .iv _ _ _ _ _ => true
 | _ => false
def zvc : D → List Nat
 | .vec i => [i]
 | .iv i _ _ _ _ => [i]
 | _ => []
def zxq (E : Env) (ob : List Ob) (ds : List D) (K : D → List Ob → List Nat → List Nat → Option R) (cs : List zf6) : Option R := match ds with
 | d :: r => if isIv d && z1o cs then zyk ob d fun ob1 => zud E ob1 (.vec ob.length :: r) (fun d' ob' fr wr => K d' ob' fr (zvc d ++ wr)) cs else zud E ob ds K cs
 | [] => zud E ob ds K cs
def zp4 (ob : List Ob) (e : TypeId) (t : Ty) : D → Option (List t.T)
 | .nsl => some []
 | .isl e' t' l => if h : t' = t then (if e' = e then some (znz h l) else none) else none
 | .vec i => match ob.getD i .gone with
  | .vec _ e' t' l => if h : t' = t then (if e' = e then some (znz h l) else none) else none
  | _ => none
 | .sub i lo hi sz => match ob.getD i .gone with
  | .vec _ e' t' l => if h : t' = t then (if e' = e ∧ sz = t.size then some (((znz h l).drop lo).take (hi - lo)) else none) else none
  | _ => none
 | .asl i off m n => zso ob t i off m n
 | _ => none
def zzp (i : Nat) : D → Bool
 | .vec j | .sub j _ _ _ | .asl j _ _ _ => j != i
 | _ => true
def z1p (ob : List Ob) (e : TypeId) (t : Ty) (j : Nat) : Option (List t.T) := match ob.getD j .gone with
 | .dv e' t' l none _ none => if h : t' = t then (if e' = e then some (znz h l) else none) else none
 | _ => none
def isDv (ob : List Ob) : D → Option Nat
 | .vec j => match ob.getD j .gone with
  | .dv _ _ _ _ _ _ => some j
  | _ => none
 | _ => none
def zvd (E : Env) (ob : List Ob) (e : TypeId) (ty : Ty) (s : D) (j : Nat) (K : D → List Ob → Option R) : Option R :=
 (z1p ob e ty j).bind fun news => match s with
  | .nsl => _root_.cond (fits news.length (E.ti e).bytes) (K (.vec ob.length) (ob.set j .gone ++ [.dv e ty news none 0 none])) none
  | .vec i => if i ≠ j then (z1p ob e ty i).bind fun l => _root_.cond (fits (l.length + news.length) (E.ti e).bytes) (K (.vec ob.length) ((ob.set i .gone).set j .gone ++ [.dv e ty (l ++ news) none 0 none])) none else none
  | _ => none
def zu5 (E : Env) (ob : List Ob) (t : TypeId) (s x : D) (K : D → List Ob → Option R) : Option R :=
 match (E.ti t).und with
 | .slice e => match (E.ti e).ty with
  | some ty => (zp4 ob e ty x).bind fun news => match s with
   | .nsl => _root_.cond (fits news.length (E.ti e).bytes) (K (.vec ob.length) (ob ++ [.vec false e ty news])) none
   | .vec i => match ob.getD i .gone with
    | .vec false e' t' l => if h : t' = ty then (if e' = e ∧ zzp i x then
      _root_.cond (fits (l.length + news.length) (E.ti e).bytes) (K (.vec ob.length) (ob.set i .gone ++ [.vec false e ty (znz h l ++ news)])) none else none) else none
    | _ => none
   | _ => none
  | none => none
 | _ => none
def z0t (E : Env) (ob : List Ob) (t : TypeId) (s x : D) (K : D → List Ob → Option R) : Option R :=
 if isIv s then zyk ob s fun ob1 => zu5 E ob1 t (.vec ob.length) x K else match isDv ob x with
  | some j => match (E.ti t).und with
   | .slice e => match (E.ti e).ty with
    | some ty => zvd E ob e ty s j K
    | none => none
   | _ => none
  | none => zu5 E ob t s x K
def ofBs (s : Bs) : List Int := s.map fun b => (b.toNat : Int)
def toBs (l : List Int) : Bs := l.map fun n => UInt8.ofNat n.toNat
def zyl (E : Env) (ob : List Ob) (t t' : TypeId) (s x : D) (K : D → List Ob → Option R) : Option R :=
 match (E.ti t).und, (E.ti t').und, x with
 | .slice e, .str, .str b => match (E.ti e).und, decide ((E.ti e).size = 1 ∧ (E.ti e).bytes = 1) with
  | .int .u8, true => match s with
   | .nsl => _root_.cond (fits b.length 1) (K (.vec ob.length) (ob ++ [.vec false e (.int .u8) (ofBs b)])) none
   | .vec i => match ob.getD i .gone with
    | .vec false e' (.int .u8) l => if e' = e then _root_.cond (fits (l.length + b.length) 1) (K (.vec ob.length) (ob.set i .gone ++ [.vec false e (.int .u8) (l ++ ofBs b)])) none else none
    | _ => none
   | _ => none
  | _, _ => none
 | _, _, _ => none
def zlh (ob : List Ob) (ty : Ty) : Nat → List (Nat × D) → List Nat → Option (List ty.T × List Nat)
 | _, [], fr => some ([], fr)
 | k, p :: ps, fr => if p.1 = k then (ki ob true ty p.2.cells fr).bind fun x => (zlh ob ty (k + 1) ps x.2).bind fun y => some (x.1 :: y.1, y.2) else none
def zrb : Nat → List (Nat × D) → Option (List D)
 | _, [] => some []
 | k, p :: ps => if p.1 = k ∧ p.2.cellOk then (zrb (k + 1) ps).bind fun y => some (p.2 :: y) else none
def bn : List Bool → List D → Bool
 | true :: bs, .vec _ :: ds => bn bs ds
 | true :: bs, .nsl :: ds => bn bs ds
 | false :: bs, _ :: ds => bn bs ds
 | [], [] => true
 | _, _ => false
def zzq : List Nat → List Ob → List Ob
 | [], ob => ob
 | j :: js, ob => zzq js (ob.set j .gone)
def z5r (ob : List Ob) (j : Nat) : Bool := match ob.getD j .gone with
 | .vec false _ _ _ => true
 | _ => false
def zve (ob : List Ob) (e : TypeId) (ty : Ty) (d : D) (K : D → List Ob → List Nat → Option R) : Option R :=
 (ki ob true ty d.cells []).bind fun x => if x.2.Nodup ∧ x.2.all (z5r ob) then K (.vec ob.length) (zzq x.2 ob ++ [.dv e ty [x.1] none 0 none]) [] else none
def z5s (E : Env) (e : TypeId) (ps : List (Nat × D)) : Option D := match (E.ti e).deep, (E.ti e).ty, ps with
 | true, some ty, [(0, d)] => if bn ty.mask d.cells then some d else none
 | _, _, _ => none
def zp5 (E : Env) (ob : List Ob) (t : TypeId) (len : Nat) (ps : List (Nat × D)) (K : D → List Ob → List Nat → Option R) : Option R :=
 match (E.ti t).und with
 | .slice e => if ps.length = len ∧ len * (E.ti e).size ≤ 16777216 then (match (E.ti e).ty with
  | some ty => match z5s E e ps with
   | some d => zve ob e ty d K
   | none => (zlh ob ty 0 ps []).bind fun x => K (.vec ob.length) (ob ++ [.vec false e ty x.1]) x.2
  | none => if (E.ti e).size = 1 then (zrb 0 ps).bind fun cs => K (.bsl ob.length len) (ob ++ [.box e cs]) [] else none) else none
 | _ => none
def D.known : D → Bool
 | .any => false
 | .yld _ _ | .nxt _ _ => false
 | _ => true
def z2h (fs : List (Nat × Nat)) (cells : List D) : List (Nat × D) → Option (List D)
 | [] => some cells
 | p :: ps => match fs[p.1]? with
  | some (off, size) => if p.2.known ∧ p.2.cells.length = size ∧ off + size ≤ cells.length then z2h fs (zd9 cells off p.2.cells) ps else none
  | none => none
def z29 (E : Env) (t : TypeId) (ps : List (Nat × D)) (K : D → Option R) : Option R :=
 match (E.ti t).und with
 | .struct fs => (z2h (fs.map fun f => (f.1, (E.ti f.2).size)) ((E.ti t).zero.map zj6) ps).bind fun cs => K (.agg cs)
 | .array n e => (z2h ((List.range n).map fun i => (i * (E.ti e).size, (E.ti e).size)) ((E.ti t).zero.map zj6) ps).bind fun cs => K (.agg cs)
 | _ => none
def sl {α : Type} (l : List α) (lo hi : Int) : Option (List α) := if 0 ≤ lo ∧ lo ≤ hi ∧ hi ≤ l.length then some ((l.take hi.toNat).drop lo.toNat) else none
def zg7 (dflt : Int) : Option D → Option Int
 | none => some dflt
 | some (.int .i64 n) => some n
 | _ => none
def zzr (E : Env) (ob : List Ob) (t : TypeId) (x : D) (lo hi : Option D) (K : D → List Ob → Option R) : Option R :=
 match (E.ti t).und, x with
 | .str, .str s => (zg7 0 lo).bind fun a => (zg7 s.length hi).bind fun b => (sl s a b).bind fun s' => K (.str s') ob
 | .slice e', .isl e ty l => if (E.ti e').size ≠ ty.size then none else (zg7 0 lo).bind fun a => (zg7 l.length hi).bind fun b => (sl l a b).bind fun l' => K (.isl e ty l') ob
 | .slice e', .vec i => match ob.getD i .gone with
  | .vec mk e ty l => if (E.ti e').size ≠ ty.size then none else (zg7 0 lo).bind fun a => (zg7 l.length hi).bind fun b => match lo with
   | none => (sl l 0 b).bind fun l' => K (.vec ob.length) (ob.set i .gone ++ [.vec mk e ty l'])
   | some _ => _root_.cond (decide (0 ≤ a) && decide (a ≤ b) && decide (b ≤ l.length)) (K (.sub i a.toNat b.toNat ty.size) ob) none
  | _ => none
 | .slice e', .sub i l h sz => if (E.ti e').size ≠ sz then none else (zg7 0 lo).bind fun a => (zg7 ((h - l : Nat) : Int) hi).bind fun b =>
   _root_.cond (decide (0 ≤ a) && decide (a ≤ b) && decide (b ≤ ((h - l : Nat) : Int))) (K (.sub i (l + a.toNat) (l + b.toNat) sz) ob) none
 | .array m e, .ptr i off => match lo, ob.getD i .gone with
  | none, .box _ cs => if off + m ≤ cs.length ∧ m ≤ maxB ∧ (E.ti e).size = 1 then (zg7 m hi).bind fun b => _root_.cond (decide (0 ≤ b) && decide (b ≤ (m : Int))) (K (.asl i off m b.toNat) ob) none else none
  | _, _ => none
 | _, _ => none
def zsp (ty : Ty) : Nat → List D → Option (List ty.T)
 | 0, _ => some []
 | n + 1, ds => (xn [] false ty ds []).bind fun x => (zsp ty n x.2.1).bind fun l => some (x.1 :: l)
def z0u (E : Env) (t : TypeId) (g : Nat) (lo hi : Option D) (K : D → Option R) : Option R :=
 match (E.ti t).und, E.glob g, lo with
 | .array n e, some (_, cs), none => match (E.ti e).ty with
  | some ty => if (E.ti e).size = ty.size ∧ n ≤ maxB then (zsp ty n (cs.map zj6)).bind fun l => (zg7 n hi).bind fun b => (sl l 0 b).bind fun l' => K (.isl e ty l') else none
  | none => none
 | _, _, _ => none
def zsq (E : Env) (ob : List Ob) (t : TypeId) (x y : D) (K : D → List Ob → Option R) : Option R :=
 match (E.ti t).und, x, y with
 | .slice e, .int _ n, .int _ n' => match (E.ti e).ty with
  | some ty => (ki [] false ty ((E.ti e).zero.map zj6) []).bind fun z => _root_.cond (decide (0 ≤ n) && n == n' && fits n.toNat (E.ti e).bytes) (K (.vec ob.length) (ob ++ [.vec false e ty (List.replicate n.toNat z.1)])) none
  | none => none
 | _, _, _ => none
def zvf (E : Env) (ob : List Ob) (t : TypeId) (y : D) (K : D → List Ob → Option R) : Option R :=
 match (E.ti t).und, y with
 | .slice e, .int _ n => match (E.ti e).ty with
  | some ty => _root_.cond (decide (0 ≤ n) && fits n.toNat (E.ti e).bytes) (K (.vec ob.length) (ob ++ [.vec false e ty []])) none
  | none => none
 | _, _ => none
def z5t : Operand → Bool
 | .const (.int _ 0) => true
 | _ => false
def zo8 (E : Env) (ob : List Ob) (src dst : TypeId) (x : D) (K : D → List Ob → Option R) : Option R :=
 match (E.ti src).und, (E.ti dst).und, x with
 | .int _, .int k, .int _ n => K (.int k (k.wrap n)) ob
 | .str, .str, .str s => K (.str s) ob
 | .str, .slice e, .str s => match (E.ti e).und, (E.ti e).ty with
  | .int .u8, some (.int .u8) => K (.vec ob.length) (ob ++ [.vec true e (.int .u8) (ofBs s)])
  | _, _ => none
 | .slice e, .str, x => match (E.ti e).und with
  | .int .u8 => (zp4 ob e (.int .u8) x).bind fun l => K (.str (toBs l)) ob
  | _ => none
 | _, _, _ => none
def mn (a b : Int) : Int := if b < a then b else a
def mixA (k : IntKind) (l : List Int) : Nat → List Int → List D
 | _, [] => []
 | j, o :: os => .int k ((l[j]?).getD o) :: mixA k l (j + 1) os
def z50 (E : Env) (ob : List Ob) (s t : TypeId) (i : Nat) (K : D → List Ob → Option R) : Option R :=
 match (E.ti s).und, ob.getD i .gone with
 | .slice e, .vec false e' (.int .u8) l => match (E.ti e).und with
  | .int .u8 => if s = t then _root_.cond (!l.isEmpty) (K (.vec i) (ob.set i (.vec true e' (.int .u8) l))) none else none
  | _ => none
 | _, _ => none
def z3a (E : Env) (ob : List Ob) (e e' : TypeId) (i off m n : Nat) (y : D) (K : D → List Ob → Option R) : Option R :=
 match ob.getD i .gone, (E.ti e).und with
 | .box t' cs, .int k => if n = m ∧ m ≤ maxB ∧ e' = e ∧ (E.ti e).size = 1 ∧ zzp i y then (z26 ob k i off m).bind fun old => (zp4 ob e (.int k) y).bind fun l =>
   K (.int .i64 (mn (l.length : Int) (m : Int))) (ob.set i (.box t' (zd9 cs off (mixA k l 0 old)))) else none
 | _, _ => none
def aLen (E : Env) (t : TypeId) (ob : List Ob) (x : D) (K : D → Option R) : Option R :=
 match (E.ti t).und, x with
 | .str, .str s => K (.int .i64 s.length)
 | .slice _, .isl _ _ l => K (.int .i64 l.length)
 | .slice _, .nsl => K (.int .i64 0)
 | .slice _, .vec i => match ob.getD i .gone with
  | .vec _ _ _ l => K (.int .i64 l.length)
  | .dv _ _ l _ _ _ => K (.int .i64 l.length)
  | _ => none
 | .slice _, .iv i g k sz off => zyh ob i g k sz off fun _ _ l => K (.int .i64 l.length)
 | .slice _, .bsl _ n => _root_.cond (zg5 n) (K (.int .i64 n)) none
 | .slice _, .sub _ lo hi _ => K (.int .i64 ((hi - lo : Nat) : Int))
 | .slice _, .asl _ _ _ n => K (.int .i64 (n : Int))
 | _, _ => none
/-! -/
def mput {α β : Type} (eq : α → α → Bool) (k : α) (x : β) : List (α × β) → List (α × β)
 | [] => [(k, x)]
 | p :: l => _root_.cond (eq k p.1) ((k, x) :: l) (p :: mput eq k x l)
def zym (E : Env) (ob : List Ob) (t : TypeId) (K : D → List Ob → Option R) : Option R := match (E.ti t).und with
 | .map k e => match (E.ti k).ty, (E.ti e).ty with
  | some kt, some et => K (.mapp ob.length) (ob ++ [.mp kt et []])
  | _, _ => none
 | _ => none
def zsr (E : Env) (ob : List Ob) (t : TypeId) (i : Nat) (k x : D) (K : List Ob → Option R) : Option R := match (E.ti t).und, ob.getD i .gone, k with
 | .map kt _, .mp .str et l, .str s => match (E.ti kt).und with
  | .str => (ki ob false et x.cells []).bind fun y => _root_.cond (decide (l.length < maxB)) (K (ob.set i (.mp .str et (mput (fun a b => a == b) s y.1 l)))) none
  | _ => none
 | _, _, _ => none
def ltBs : Bs → Bs → Bool
 | [], [] => false
 | [], _ :: _ => true
 | _ :: _, [] => false
 | a :: l, b :: r => _root_.cond (decide (a.toNat < b.toNat)) true (_root_.cond (decide (b.toNat < a.toNat)) false (ltBs l r))
def ltK (x y : Bs × Bs) : Bool := _root_.cond (ltBs x.1 y.1) true (_root_.cond (ltBs y.1 x.1) false (ltBs x.2 y.2))
def insK {β : Type} (k : Bs × Bs) (x : β) : List ((Bs × Bs) × β) → List ((Bs × Bs) × β)
 | [] => [(k, x)]
 | p :: l => _root_.cond (ltK k p.1) ((k, x) :: p :: l) (p :: insK k x l)
def zn0 {β : Type} (k : Bs × Bs) (z : β) : List ((Bs × Bs) × β) → β
 | [] => z
 | p :: l => _root_.cond (p.1 == k) p.2 (zn0 k z l)
def zyn (E : Env) (ob : List Ob) (t : TypeId) (i : Nat) (k x : D) (K : List Ob → Option R) : Option R := match (E.ti t).und, ob.getD i .gone, k, x with
 | .map _ _, .mp (.pair .str .str) (.int ik) l, .agg [.str a, .str b], .int ik' n => if E.key2 t = true ∧ ik' = ik then
   _root_.cond (decide (l.length < maxB) && l.all fun p => !(p.1 == (a, b))) (K (ob.set i (.mp (.pair .str .str) (.int ik) (insK (a, b) n l)))) none else none
 | _, _, _, _ => none
def zyo (E : Env) (ob : List Ob) (t : TypeId) (i : Nat) (k : D) (K : D → Option R) : Option R := match (E.ti t).und, ob.getD i .gone, k with
 | .map _ e, .mp (.pair .str .str) (.int ik) l, .agg [.str a, .str b] => match (E.ti e).und with
  | .int ik' => if E.key2 t = true ∧ ik' = ik then K (.int ik (zn0 (a, b) 0 l)) else none
  | _ => none
 | _, _, _ => none
def z52 (E : Env) (t : TypeId) (ob : List Ob) (i : Nat) (K : D → Option R) : Option R := match (E.ti t).und, ob.getD i .gone with
 | .map _ _, .mp _ _ l => K (.int .i64 l.length)
 | _, _ => none
def Und.isTab : Und → Bool
 | .int _ => true
 | .str => true
 | .struct _ => true
 | _ => false
def z3b (E : Env) (m : Nat) (e : TypeId) (g : Nat) (n : Int) (K : D → Option R) : Option R :=
 match (E.ti e).ty, E.glob g with
 | some ty, some (_, cs) => if (E.ti e).size = ty.size ∧ 2 ≤ m then (zsp ty m (cs.map zj6)).bind fun l => (idx l n).bind fun v => K (.iptr ty v 0) else none
 | _, _ => none
def zss (E : Env) (ob : List Ob) (t : TypeId) (x i : D) (K : D → Option R) : Option R :=
 match (E.ti t).und, x, i with
 | .slice e, .isl _ ty l, .int _ n => if (E.ti e).size = ty.size then (idx l n).bind fun v => K (.iptr ty v 0) else none
 | .slice e, .vec j, .int _ n => match ob.getD j .gone with
  | .vec _ _ ty l => if (E.ti e).size = ty.size then _root_.cond (decide (0 ≤ n) && decide (n < l.length)) (K (.elt j n.toNat ty.size 0)) none else none
  | .dv _ ty l _ _ _ => if (E.ti e).size = ty.size then _root_.cond (decide (0 ≤ n) && decide (n < l.length)) (K (.elt j n.toNat ty.size 0)) none else none
  | _ => none
 | .slice e, .iv j g k sz off, .int _ n => zyh ob j g k sz off fun _ ty l => if (E.ti e).size = ty.size then _root_.cond (decide (0 ≤ n) && decide (n < l.length)) (K (.ielt j g k sz off n.toNat ty.size 0)) none else none
 | .slice e, .bsl j m, .int _ n => if (E.ti e).size = 1 then _root_.cond (decide (0 ≤ n) && decide (n < m)) (K (.ptr j n.toNat)) none else none
 | .slice e, .sub j lo hi sz, .int _ n => match ob.getD j .gone with
  | .vec _ _ ty _ => if (E.ti e).size = ty.size ∧ sz = ty.size then _root_.cond (decide (0 ≤ n) && decide (n < ((hi - lo : Nat) : Int))) (K (.elt j (lo + n.toNat) ty.size 0)) none else none
  | _ => none
 | .array m e, .ptr j off, .int _ n => _root_.cond (decide (0 ≤ n) && decide (n < m) && decide (2 ≤ m)) (K (.ptr j (off + n.toNat * (E.ti e).size))) none
 | .array m e, .gptr g off, .int _ n => if off = 0 ∧ (E.ti e).und.isTab = true then z3b E m e g n K else _root_.cond (decide (0 ≤ n) && decide (n < m) && decide (2 ≤ m)) (K (.gptr g (off + n.toNat * (E.ti e).size))) none
 | _, _, _ => none
def Und.isStr : Und → Bool
 | .str => true
 | _ => false
def z4z : List D → Option (List Bs)
 | [] => some []
 | .str s :: r => (z4z r).bind fun l => some (s :: l)
 | _ :: _ => none
def z3c (E : Env) (t : TypeId) (x i : D) (K : D → Option R) : Option R :=
 match (E.ti t).und, x, i with
 | .str, .str s, .int _ n => (idx s n).bind fun c => K (.int .u8 (c.toNat : Int))
 | .array m e, .agg cs, .int _ n => if (E.ti e).und.isStr = true ∧ (E.ti e).size = 1 ∧ 3 ≤ m then (z4z cs).bind fun l => if l.length = m then (idx l n).bind fun s => K (.str s) else none
  else _root_.cond (decide (0 ≤ n) && decide (n < m)) (cut (E.ti e) cs (n.toNat * (E.ti e).size) K) none
 | _, _, _ => none
def zo9 (E : Env) (t : TypeId) (f : Nat) : Option (Nat × TypeId) := match (E.ti t).und with
 | .struct fs => fs[f]?
 | _ => none
def zst (E : Env) (t : TypeId) (x : D) (f : Nat) (K : D → Option R) : Option R :=
 match zo9 E t f with
 | some (o, _) => match x with
  | .ptr i off => K (.ptr i (off + o))
  | .iptr ty v off => K (.iptr ty v (off + o))
  | .elt i k sz off => K (.elt i k sz (off + o))
  | .ielt i g k sz off n es q => K (.ielt i g k sz off n es (q + o))
  | .gptr g off => K (.gptr g (off + o))
  | _ => none
 | none => none
def z1q (f : Int → Int → Int) : D → D → Option D
 | .int k a, .int k' b => if k = k' then some (.int k (f a b)) else none
 | _, _ => none
def mx (a b : Int) : Int := if a < b then b else a
def z3d : D → Bool
 | .ptr _ _ => true
 | .str _ => true
 | _ => false
def rdOf : D → List Nat
 | .ptr i _ | .elt i _ _ _ | .ielt i _ _ _ _ _ _ _ => [i]
 | _ => []
def mvOf (ob : List Ob) : D → D → List Nat
 | .elt i _ _ _, .vec j => match ob.getD i .gone with
  | .dv _ _ _ _ _ _ => [j]
  | _ => []
 | _, _ => []
def z3e (E : Env) (ob : List Ob) (t : TypeId) (x : D) (K : D → List Ob → List Nat → Option R) : Option R :=
 match (E.ti t).und, x with
 | .slice e, .sub i lo hi sz => match ob.getD i .gone with
  | .vec false e' ty l => if e' = e ∧ sz = ty.size ∧ (E.ti e).size = ty.size ∧ (E.ti e).und.isBad = false then
    (ki [] false ty ((E.ti e).zero.map zj6) []).bind fun z => K (.tup []) (ob.set i (.vec false e' ty (l.take lo ++ List.replicate (hi - lo) z.1 ++ l.drop hi))) [i] else none
  | _ => none
 | _, _ => none
def zzs (s : Bs) (pos : Nat) : Int := ((Utf8.decode ⟨s.toArray⟩ pos).1 : Nat)
def zli (s : Bs) (pos : Nat) : Nat := _root_.cond (decide (pos < s.length)) (pos + (Utf8.decode ⟨s.toArray⟩ pos).2) pos
def xorC (k : IntKind) : Int := if k.signed then -1 else k.max
def aOpM (E : Env) (ρ : Operand → D) (ob : List Ob) (o : Op) (K : D → List Ob → List Nat → List Nat → Option R) : Option R := match o with
 | .insert t m k x => match ρ m with
  | .mapp i => zyn E ob t i (ρ k) (ρ x) fun ob' => K .skip ob' [] [i]
  | _ => none
 | .lookup t m k false => match ρ m with
  | .mapp i => zyo E ob t i (ρ k) fun d => K d ob [] []
  | _ => none
 | _ => none
def aOp (E : Env) (ρ : Operand → D) (ob : List Ob) (ty : TypeId) (o : Op) (K : D → List Ob → List Nat → List Nat → Option R) : Option R :=
 match o with
 | .move x | .assign x => K (ρ x) ob [] []
 | .pick c a b => match ρ c with
  | .bool x => match ρ a, ρ b with
   | .bool y, .bool z => K (.bool (_root_.cond x y z)) ob [] []
   | .int k y, .int k' z => if k = k' then K (.int k (_root_.cond x y z)) ob [] [] else none
   | .str y, .str z => K (.str (_root_.cond x y z)) ob [] []
   | y, z => _root_.cond x (K y ob [] []) (K z ob [] [])
  | _ => none
 | .alloc t => if (E.ti t).und.isBad then none else match (E.ti t).bld with
  | some e => K (.ptr ob.length 0) (ob ++ [.bld t e []]) [] []
  | none => K (.ptr ob.length 0) (ob ++ [.box t ((E.ti t).zero.map zj6)]) [] []
 | .box t x => if (ρ x).cells.all D.cellOk then K (.ptr ob.length 0) (ob ++ [.box t (ρ x).cells]) [] [] else none
 | .build t ps => z29 E t (ps.toList.map fun p => (p.1, ρ p.2)) fun d => K d ob [] []
 | .buildSlice t n ps => zp5 E ob t n (ps.toList.map fun p => (p.1, ρ p.2)) fun d ob' fr => K d ob' fr []
 | .load t x => z27 E ob t (ρ x) fun d => K d ob [] []
 | .store t x v => z28 E ob t (ρ x) (ρ v) fun ob' fr => K .skip ob' fr (rdOf (ρ x) ++ mvOf ob (ρ x) (ρ v))
 | .nilCheck x => match ρ x with
  | .ptr i o => K (.ptr i o) ob [] []
  | .iptr t v o => K (.iptr t v o) ob [] []
  | .elt i k sz o => K (.elt i k sz o) ob [] []
  | .ielt i g k sz off n es o => K (.ielt i g k sz off n es o) ob [] []
  | .gptr g o => K (.gptr g o) ob [] []
  | .fn f a b => K (.fn f a b) ob [] []
  | _ => none
 | .binOp op t x y _ => aCmp E ob ρ op t x y fun d => K d ob [] []
 | .makeInterface t x => match (E.ti t).und, ρ x with
  | .int k, .int k' n => if k = k' then K (.eint t k (some n)) ob [] [] else none
  | .ptr _, .ptr _ _ => K (.ierr true) ob [] []
  | _, _ => none
 | .makeSlice t x y => match z5t x with
  | true => zvf E ob t (ρ y) fun d ob' => K d ob' [] []
  | false => zsq E ob t (ρ x) (ρ y) fun d ob' => K d ob' [] []
 | .makeMap t none => zym E ob t fun d ob' => K d ob' [] []
 | .mapUpdate t m k x => match ρ m with
  | .mapp i => zsr E ob t i (ρ k) (ρ x) fun ob' => K .skip ob' [] [i]
  | _ => none
 | .unOp .not _ x => match ρ x with
  | .bool b => K (.bool (!b)) ob [] []
  | _ => none
 | .unOp .neg _ x => match ρ x with
  | .int k n => K (.int k (k.wrap (0 - n))) ob [] []
  | _ => none
 | .unOp .xor _ x => match ρ x with
  | .int k n => K (.int k (k.wrap ((BitVec.ofInt k.bits (xorC k) ^^^ BitVec.ofInt k.bits n).toNat : Int))) ob [] []
  | _ => none
 | .range t x => match (E.ti t).und, ρ x with
  | .str, .str s => K (.ptr ob.length 0) (ob ++ [.sit s 0]) [] []
  | _, _ => none
 | .next x true => match ρ x with
  | .ptr i 0 => match ob.getD i .gone with
   | .sit s pos => K (.nxt (decide (pos < s.length)) [.int .i64 pos, .int .i32 (zzs s pos)]) (ob.set i (.sit s (zli s pos))) [] [i]
   | _ => none
  | _ => none
 | .convert s t x => match ρ x, (E.ti t).und with
  | .vec i, .slice _ => z50 E ob s t i fun d ob' => K d ob' [] [i]
  | p, _ => zo8 E ob s t p fun d ob' => K d ob' [] []
 | .makeFunc (.func f) first caps => if (first.toList.map ρ).all z3d && (caps.toList.map ρ).all z3d then K (.fn f (first.toList.map ρ) (caps.toList.map ρ)) ob [] [] else none
 | .slice t x lo hi none => match ρ x with
  | .gptr g 0 => z0u E t g (lo.map ρ) (hi.map ρ) fun d => K d ob [] []
  | p => zzr E ob t p (lo.map ρ) (hi.map ρ) fun d ob' => K d ob' [] []
 | .fieldAddr t x f => zst E t (ρ x) f fun d => K d ob [] []
 | .field t x f => match zo9 E t f, ρ x with
  | some (o, u), .agg cs => cut (E.ti u) cs o fun d => K d ob [] []
  | _, _ => none
 | .indexAddr t x i => zss E ob t (ρ x) (ρ i) fun d => K d ob [] []
 | .index t x i => z3c E t (ρ x) (ρ i) fun d => K d ob [] []
 | .extract x i => match ρ x with
  | .tup vs => match vs[i]? with
   | some d => K d ob [] []
   | none => none
  | .nxt b ds => match i with
   | 0 => K (.bool b) ob [] []
   | i + 1 => match ds[i]? with
    | some d => _root_.cond b (K d ob [] []) none
    | none => none
  | _ => none
 | .call { callee := .builtin .len, args := ⟨[x]⟩, argTypes := ⟨[t]⟩ } => match ρ x with
  | .mapp i => z52 E t ob i fun d => K d ob [] []
  | p => aLen E t ob p fun d => K d ob [] []
 | .call { callee := .builtin .min, args := ⟨[x, y]⟩, argTypes := _ } => match z1q mn (ρ x) (ρ y) with
  | some d => K d ob [] []
  | none => none
 | .call { callee := .builtin .max, args := ⟨[x, y]⟩, argTypes := _ } => match z1q mx (ρ x) (ρ y) with
  | some d => K d ob [] []
  | none => none
 | .call { callee := .builtin .clear, args := ⟨[x]⟩, argTypes := ⟨[t]⟩ } => z3e E ob t (ρ x) fun d ob' wr => K d ob' [] wr
 | .call { callee := .builtin .append, args := ⟨[x, y]⟩, argTypes := ⟨[t, t']⟩ } => if t = t' then z0t E ob t (ρ x) (ρ y) fun d ob' => K d ob' [] (zvc (ρ x)) else zyl E ob t t' (ρ x) (ρ y) fun d ob' => K d ob' [] (zvc (ρ x))
 | .call { callee := .builtin .unsafeSliceData, args := ⟨[x]⟩, argTypes := _ } => match (E.ti ty).und, ρ x with
  | .ptr _, .nsl => K .nilp ob [] []
  | .ptr _, .vec i => match ob.getD i .gone with
   | .vec _ _ _ _ => K (.sdp i) ob [] []
   | _ => none
  | _, _ => none
 | .call { callee := .builtin .unsafeString, args := ⟨[x, y]⟩, argTypes := ⟨[t, _]⟩ } => match (E.ti t).und, ρ x, ρ y with
  | .ptr _, .nilp, .int .i64 n => _root_.cond (n == 0) (K (.str []) ob [] []) none
  | .ptr e', .sdp i, .int .i64 n => match ob.getD i .gone with
   | .vec _ e (.int .u8) l => if e' = e ∧ (E.ti e).und.isBad = false ∧ (E.ti e).size = 1 then _root_.cond (n == (l.length : Int)) (K (.str (toBs l)) (ob.set i .gone) [] [i]) none else none
   | _ => none
  | .ptr e', .elt i 0 1 0, .int .i64 n => match ob.getD i .gone with
   | .vec _ e (.int .u8) l => if e' = e ∧ (E.ti e).und.isBad = false ∧ (E.ti e).size = 1 then _root_.cond (n == (l.length : Int)) (K (.str (toBs l)) (ob.set i .gone) [] [i]) none else none
   | _ => none
  | _, _, _ => none
 | .call { callee := .builtin .copy, args := ⟨[x, y]⟩, argTypes := ⟨[t, t']⟩ } => match (E.ti t).und, (E.ti t').und, ρ x, ρ y with
  | .slice e', .str, .vec i, .str s => match ob.getD i .gone with
   | .vec false e (.int .u8) l => if e' = e ∧ (E.ti e).und.isBad = false ∧ (E.ti e).size = 1 then _root_.cond (decide (s.length ≤ l.length)) (K (.int .i64 s.length) (ob.set i (.vec false e (.int .u8) (ofBs s ++ l.drop s.length))) [] [i]) none else none
   | _ => none
  | .slice e, .slice e', .asl i off m n, y' => z3a E ob e e' i off m n y' fun d ob' => K d ob' [] [i]
  | _, _, _, _ => none
 | .call { callee := .value f, args, argTypes := _ } => match ρ f with
  | .fn g first caps => match E.ext g with
   | none => zxq E ob (first ++ args.toList.map ρ ++ caps) K (E.call g)
   | some .indexByte => match first ++ args.toList.map ρ ++ caps with
    | [.str s, .int .u8 n] => K (.int .i64 (Lib.indexByte s n.toNat.toUInt8)) ob [] []
    | _ => none
  | .fsel k fs first caps => selR k fs fun g => match E.ext g with
   | none => zxq E ob (first ++ args.toList.map ρ ++ caps) K (E.call g)
   | some _ => none
  | _ => none
 | o => aOpM E ρ ob o K

def aOpY (E : Env) (ρ : Operand → D) (ob : List Ob) (ty : TypeId) (op : Op) (K : D → List Ob → List Nat → List Nat → Option R) : Option R := match op with
 | .call { callee := .value f, args, argTypes := _ } => match ρ f with
  | .yld i ds => match E.yl with
   | some Y => if i = E.lpAt then zud E ob (ds ++ args.toList.map ρ) K [Y] else none
   | none => none
  | _ => aOp E ρ ob ty op K
 | _ => aOp E ρ ob ty op K
/-! -/
def frz1 (ob : List Ob) (fr : List Nat) : D → D
 | .vec i => if fr.contains i then (match ob.getD i .gone with | .vec _ e t l => .isl e t l | .dv e t l _ _ none => .isl e t l | _ => .any) else .vec i
 | .sub i lo hi sz => if fr.contains i then .any else .sub i lo hi sz
 | .elt i k sz o => if fr.contains i then .any else .elt i k sz o
 | .iv i g k sz o => if fr.contains i then .any else .iv i g k sz o
 | .ielt i g k sz o n es q => if fr.contains i then .any else .ielt i g k sz o n es q
 | d => d
def frzA (ob : List Ob) (fr : List Nat) : D → D
 | .agg cs => .agg (cs.map (frz1 ob fr))
 | d => frz1 ob fr d
def frzD (ob : List Ob) (fr : List Nat) : D → D
 | .tup vs => .tup (vs.map (frzA ob fr))
 | d => frzA ob fr d
def frzO (ob : List Ob) (fr : List Nat) : Nat → List Ob → List Ob
 | _, [] => []
 | i, o :: os => (if fr.contains i then .gone else match o with | .box t cs => .box t (cs.map (frz1 ob fr)) | o => o) :: frzO ob fr (i + 1) os
def frz (fr : List Nat) (tm : List D) (ob : List Ob) (K : List D → List Ob → Option R) : Option R := match fr with
 | [] => K tm ob
 | _ :: _ => K (tm.map (frzD ob fr)) (frzO ob fr 0 ob)

/-! -/
def putD (tm : List D) (d : Option Tmp) (v : D) : List D := match d with
 | some i => tm.set i v
 | none => tm
def zzt (ops : List Oper) (j : Nat) : Option Tmp := (ops[j]?).bind (·.dst)
def aOps (E : Env) (all : List Oper) : List Oper → List D → List Ob → (List D → List Ob → Option R) → Option R
 | [], tm, ob, K => K tm ob
 | o :: rest, tm, ob, K => match o.guard with
  | none => aOpY E (evD tm) ob o.type o.op fun d ob' fr _ => frz fr (putD tm o.dst d) ob' fun tm' ob'' => aOps E all rest tm' ob'' K
  | some (j, want) => match zzt all j with
   | none => none
   | some s => match tm.getD s .any with
    | .bool x => _root_.cond (x == want)
      (aOpY E (evD (tm.set s (.bool want))) ob o.type o.op fun d ob' fr _ => frz fr (putD (tm.set s (.bool want)) o.dst d) ob' fun tm' ob'' => aOps E all rest tm' ob'' K)
      (aOps E all rest (putD (tm.set s (.bool (!want))) o.dst .skip) ob K)
    | .skip => aOps E all rest (putD tm o.dst .skip) ob K
    | _ => none
/-! -/
def zp6 (E : Env) (ρ : Operand → D) (W : List Nat) : Op → Bool
 | .move _ | .assign _ | .pick _ _ _ | .build _ _ | .nilCheck _ | .binOp _ _ _ _ _ | .unOp _ _ _ | .fieldAddr _ _ _ | .field _ _ _ | .indexAddr _ _ _ | .index _ _ _ | .extract _ _ | .makeFunc _ _ _ | .makeInterface _ _ => true
 | .load _ x => (rdOf (ρ x)).all fun i => !W.contains i
 | .slice _ x _ _ none => match ρ x with
  | .vec _ => false
  | _ => true
 | .convert s t _ => match (E.ti s).und, (E.ti t).und with
  | .int _, .int _ => true
  | _, _ => false
 | .call { callee := .builtin .len, args := ⟨[x]⟩, argTypes := ⟨[_]⟩ } => match ρ x with
  | .mapp _ => false
  | _ => true
 | .call { callee := .builtin .min, args := ⟨[_, _]⟩, argTypes := _ } => true
 | .call { callee := .builtin .max, args := ⟨[_, _]⟩, argTypes := _ } => true
 | _ => false
def Ob.alive : Ob → Bool
 | .gone | .dv _ _ _ _ _ _ => false
 | _ => true
def Ob.isDv : Ob → Bool
 | .dv _ _ _ _ _ _ => true
 | _ => false
def ze6 : List Edge → Nat
 | [] => 0
 | e :: es => if Region.binds .any e then 2 ^ e.on ||| ze6 es else ze6 es
def wOf (ops : Array Oper) (W : List (Nat × List Nat)) (k : Nat) : List Nat :=
 (W.filter fun p => match ops[p.1]? with
  | some o => !(ze6 o.after.toList).testBit k
  | none => true).flatMap (·.2)
inductive Ord where
 | done
 | step (k : Nat) (st : Bool) (t : Ord)
 | alt (k : Nat) (t u : Ord)
def Ord.alts : Ord → List (Nat × Ord)
 | .alt k t u => (k, t) :: u.alts
 | .step k false t => [(k, t)]
 | _ => []
def zxr (ops : Array Oper) (j k : Nat) : Bool := match ops[j]? with
 | some o => (ze6 o.after.toList).testBit k
 | none => true
def ldRd (ρ : Operand → D) : Op → Option (List Nat)
 | .load _ x => some (rdOf (ρ x))
 | _ => none
def fOK (ops : Array Oper) (ob : List Ob) (F : List (Nat × List Nat)) (k : Nat) : Option (List Nat) → Bool
 | none => true
 | some rd => F.all (fun p => zxr ops p.1 k) || (!rd.isEmpty && rd.all (fun i => (ob.getD i .gone).alive) && F.all fun p => zxr ops p.1 k || rd.all p.2.contains)
def wrOK (ob : List Ob) (W : List (Nat × List Nat)) (F : List (Nat × List Nat)) (k : Nat) (wr : List Nat) : Bool := match F.lookup k with
 | some keep => keep.all fun i => (ob.getD i .gone).alive && !wr.contains i
 | none => wr.all fun i => ((W.lookup k).getD []).contains i && !(ob.getD i .gone).isDv
def zzu (E : Env) (ops : Array Oper) (W : List (Nat × List Nat)) (F : List (Nat × List Nat)) (k : Nat) (st : Bool) (tm : List D) (ob : List Ob) (next : List D → List Ob → Option R) : Option R := match ops[k]? with
 | none => none
 | some o =>
  let go := fun (tm : List D) => match st with
   | true => if zp6 E (evD tm) (wOf ops W k) o.op && (wOf ops W k).all (fun i => (ob.getD i .gone).alive) && fOK ops ob F k (ldRd (evD tm) o.op) then aOp E (evD tm) ob o.type o.op fun d _ _ _ => next (putD tm o.dst d) ob else none
   | false => aOp E (evD tm) ob o.type o.op fun d ob' fr wr => if wrOK ob W F k wr then frz fr (putD tm o.dst d) ob' fun tm' ob'' => next tm' ob'' else none
  match o.guard with
  | none => go tm
  | some (j, want) => match (ops[j]?).bind (·.dst) with
   | none => none
   | some s => match tm.getD s .any with
    | .bool x => _root_.cond (x == want) (go (tm.set s (.bool want))) (next (putD (tm.set s (.bool (!want))) o.dst .skip) ob)
    | .skip => next (putD tm o.dst .skip) ob
    | _ => none
def zrc (E : Env) (ops : Array Oper) (W : List (Nat × List Nat)) (F : List (Nat × List Nat)) (eq : R → R → Bool) : Ord → List D → List Ob → (List D → List Ob → Option R) → Option R
 | .done, tm, ob, K => K tm ob
 | .step k st t, tm, ob, K => zzu E ops W F k st tm ob fun tm' ob' => zrc E ops W F eq t tm' ob' K
 | .alt k t u, tm, ob, K => (zzu E ops W F k false tm ob fun tm' ob' => zrc E ops W F eq t tm' ob' K).bind fun o => (zrc E ops W F eq u tm ob K).bind fun o' => if eq o o' then some o else none
def z3f (ops : Array Oper) (L k : Nat) (o : Oper) : Nat → List Oper → List Nat → Bool
 | j, x :: xs, m :: ms => (j == k || L.testBit j || m.testBit k || o.apart ops x) && z3f ops L k o (j + 1) xs ms
 | _, [], [] => true
 | _, _, _ => false
def z2i (L : Nat) (hs : List Nat) : Nat → List Nat → Bool
 | j, m :: ms => (hs.contains j || L.testBit j || !(m &&& L == m)) && z2i L hs (j + 1) ms
 | _, [] => true
def chkO (ops : Array Oper) (ms : List Nat) : Ord → Nat → Nat → List Nat → Bool
 | .done, n, L, hs => n == 0 && hs.isEmpty && z2i L [] 0 ms
 | .step k st t, n, L, hs => match ops[k]?, ms[k]?, n with
  | some o, some m, n + 1 => !L.testBit k && m &&& L == m && (match st with | true => hs.isEmpty && z3f ops L k o 0 ops.toList ms | false => z2i L (k :: hs) 0 ms) && chkO ops ms t n (L ||| 2 ^ k) []
  | _, _, _ => false
 | .alt k t u, n, L, hs => match ops[k]?, ms[k]?, n with
  | some _, some m, n + 1 => !L.testBit k && m &&& L == m && chkO ops ms t n (L ||| 2 ^ k) [] && chkO ops ms u (n + 1) L (k :: hs)
  | _, _, _ => false
def z40 (ops : Array Oper) (t : Ord) : Bool :=
 Region.noSelect ops && chkO ops (ops.toList.map fun o => ze6 o.after.toList) t ops.size 0 []
inductive XK where
 | normal | ret | exit (i : Nat) | goto (l : Nat)
 deriving DecidableEq
def xk : Exit → Option XK
 | .normal => some .normal
 | .ret => some .ret
 | .exit i => some (.exit i)
 | .goto l => some (.goto l)
 | _ => none
def XK.ex : XK → Exit
 | .normal => .normal
 | .ret => .ret
 | .exit i => .exit i
 | .goto l => .goto l
@[reducible] def OutT : List (XK × zcu) → Type
 | [] => Empty
 | [p] => p.2.T
 | p :: q :: r => p.2.T ⊕ OutT (q :: r)
def zea (m0 : Nat) : (ms : List (XK × zcu)) → Exit → St → Option (OutT ms)
 | [], _, _ => none
 | [p], e, σ => if xk e = some p.1 then p.2.proj m0 σ else none
 | p :: q :: r, e, σ => if xk e = some p.1 then (p.2.proj m0 σ).bind fun t => some (.inl t) else (zea m0 (q :: r) e σ).bind fun t => some (.inr t)
def zvg : (ms : List (XK × zcu)) → OutT ms → (Exit → St → Option R) → Option R
 | [], _, _ => none
 | [p], t, K => K p.1.ex (p.2.inj t)
 | p :: q :: r, t, K => match t with
  | .inl t => K p.1.ex (p.2.inj t)
  | .inr t => zvg (q :: r) t K
inductive Ann where
 | no
 | seq (a b : Ann)
 | cond (a b : Ann)
 | blk (a : Ann)
 | cut (ms : List (XK × zcu)) (a : Ann)
 | loop (h : zcu) (ms : List (XK × zcu)) (a : Ann)
 | unr (n : Nat) (a : Ann)
 | drw (order : Ord) (W F : List (Nat × List Nat))
 | drt (ms : List (XK × zcu)) (order : Ord) (W F : List (Nat × List Nat))
 | both (ms : List (XK × zcu)) (a b : Ann)
 | scp (a : Ann)
 | scj (l : Nat) (a b : Ann)
 | pre (s : zcu) (a : Ann)
 | own (i : Nat) (a : Ann)
 | fz (fr : List Nat) (a : Ann)
 | rng (k : Nat) (mask : List Nat) (x y : Ann)
 | bse (ms : List (XK × zcu)) (r x y z1 z2 : Ann)
def decP : (ps : List Pat) → DecidableEq (zib ps)
 | [] => inferInstanceAs (DecidableEq Unit)
 | .ty t :: r => @instDecidableEqProd _ _ t.dec (decP r)
 | .cells t :: r => @instDecidableEqProd _ _ t.dec (decP r)
 | .agg t :: r => @instDecidableEqProd _ _ t.dec (decP r)
 | .aggn _ :: r => decP r
 | .vec _ :: r => decP r
 | .ptr _ _ :: r => decP r
 | .bsl _ _ :: r => decP r
 | .gptr _ _ :: r => decP r
 | .fn _ _ _ :: r => decP r
 | .nsl :: r => decP r
 | .nilp :: r => decP r
 | .nilf :: r => decP r
 | .skip :: r => decP r
 | .any :: r => decP r
 | .np _ _ :: r => decP r
 | .yldn _ _ :: r => decP r
 | .sub _ _ :: r => @instDecidableEqProd _ _ (inferInstanceAs (DecidableEq (Nat × Nat))) (decP r)
 | .fns _ :: r => @instDecidableEqProd _ _ (inferInstanceAs (DecidableEq Bs)) (decP r)
 | .mapp _ :: r => decP r
 | .fsel _ _ _ :: r => @instDecidableEqProd _ _ (inferInstanceAs (DecidableEq Nat)) (decP r)
def decO : (ps : List OPat) → DecidableEq (zaa ps)
 | [] => inferInstanceAs (DecidableEq Unit)
 | .box _ cs :: r => @instDecidableEqProd _ _ (decP cs) (decO r)
 | .vec _ _ t :: r => @instDecidableEqProd _ _ (@instDecidableEqList t.T t.dec) (decO r)
 | .dv _ t :: r => @instDecidableEqProd _ _ (@instDecidableEqProd _ _ (inferInstanceAs (DecidableEq Nat)) (@instDecidableEqList t.T t.dec)) (decO r)
 | .dvo _ t :: r => @instDecidableEqProd _ _ (@instDecidableEqList t.T t.dec) (decO r)
 | .bld _ _ :: r => @instDecidableEqProd _ _ (inferInstanceAs (DecidableEq (List UInt8))) (decO r)
 | .sit :: r => @instDecidableEqProd _ _ (inferInstanceAs (DecidableEq (Bs × Nat))) (decO r)
 | .mp kt t :: r => @instDecidableEqProd _ _ (@instDecidableEqList (kt.T × t.T) (@instDecidableEqProd _ _ kt.dec t.dec)) (decO r)
 | .lp :: r => decO r
 | .gone :: r => decO r
def zgg : (ms : List (XK × zcu)) → DecidableEq (OutT ms)
 | [] => inferInstanceAs (DecidableEq Empty)
 | [p] => @instDecidableEqProd _ _ (decP p.2.tm) (decO p.2.ob)
 | p :: q :: r => @instDecidableEqSum _ _ (@instDecidableEqProd _ _ (decP p.2.tm) (decO p.2.ob)) (zgg (q :: r))
def z3g {R : Type} (run : St → (Exit → St → Option R) → Option R) : Nat → St → (Exit → St → Option R) → Option R
 | 0, _, _ => none
 | n + 1, σ, K => run σ fun e σ' => match e with
  | .normal => z3g run n σ' K
  | e => K e σ'
def zsu (sig : Sig) (ds : List D) (ob : List Ob) : Option sig.Out :=
 (zt ob true sig.res ds (idM sig.obs.length sig.obs')).bind fun x => (jj ob true 0 sig.obs' x.2).bind fun y =>
  if (y.2.inside sig.obs.length sig.obs'.length && y.2.fixes sig.obs.length) && y.2.fr.all (fun i => !(y.2.rho.any fun p => p.2 == i && (sig.obs'.getD p.1 .gone matches .gone) == false)) then some (x.1, y.1) else none
def Ann.still : Ann → Bool
 | .no => true
 | .seq a b | .cond a b | .both _ a b => a.still && b.still
 | .bse _ r a b c d => r.still && (a.still && (b.still && (c.still && d.still)))
 | .blk a | .cut _ a | .loop _ _ a | .unr _ a | .pre _ a | .own _ a | .fz _ a => a.still
 | _ => false
def z3h (mask : List Nat) : Nat → List D → List D
 | _, [] => []
 | i, d :: ds => (if mask.contains i then d else .any) :: z3h mask (i + 1) ds
def z41 (tm : List D) : List (Tmp × D) → List D
 | [] => tm
 | p :: ps => z41 (tm.set p.1 p.2) ps
def z3i (sigY : Sig) (n : Nat) (ps : List Tmp) (ra rb : St → (Exit → St → Option sigY.Out) → Option sigY.Out) : sigY.In → Option sigY.Out := fun t =>
 if (injP id sigY.args t.1).length = n + ps.length then
  ra ⟨z41 ((injP id sigY.args t.1).take n) (ps.zip ((injP id sigY.args t.1).drop n)), injO id sigY.obs t.2⟩ fun e σ1 => match e with
   | .normal => rb σ1 fun e σ2 => match e with
    | .normal => zsu sigY [.bool true] σ2.ob
    | _ => none
   | _ => none
 else none
def aRun (E : Env) : Nat → {R : Type} → Ann → Code → St → (Exit → St → Option R) → Option R
 | m0, _, .cut ms a, c, σ, K => (aRun E m0 a c σ (zea m0 ms)).bind fun o => zvg ms o K
 | m0, _, .pre s a, c, σ, K => (s.proj m0 σ).bind fun t => aRun E m0 a c (s.inj t) K
 | m0, _, .own i x, c, σ, K => match σ.ob.getD i .gone with
  | .dv e t l (some m) g none => _root_.cond (m == t.nsl * l.length) (aRun E m0 x c ⟨σ.tm, σ.ob.set i (.dv e t l none g none)⟩ K) none
  | _ => none
 | m0, _, .fz fr x, c, σ, K => frz fr σ.tm σ.ob fun tm ob => aRun E m0 x c ⟨tm, ob⟩ K
 | m0, _, .seq x y, .seq a b, σ, K => aRun E m0 x a σ fun e σ' => match e with
  | .normal => aRun E m0 y b σ' K
  | e => K e σ'
 | m0, _, .cond x y, .cond c a b, σ, K => match evD σ.tm c with
  | .bool t => _root_.cond t (aRun E m0 x a σ K) (aRun E m0 y b σ K)
  | _ => none
 | m0, _, .both ms x y, .cond c a b, σ, K => match evD σ.tm c with
  | .ub f => _root_.cond f (aRun E m0 y b σ K) ((aRun E m0 x a σ (zea m0 ms)).bind fun o => (aRun E m0 y b σ (zea m0 ms)).bind fun o' => if (@decide (o = o') (zgg ms o o')) then zvg ms o K else none)
  | _ => none
 | m0, _, .bse ms xr x y z1 z2, .seq (.seq r0 (.cond c a b)) d, σ, K => aRun E m0 xr r0 σ fun e σ0 => match e with
  | .normal => match evD σ0.tm c with
   | .ub f => _root_.cond f (aRun E m0 y b σ0 fun e σ' => match e with
      | .normal => aRun E m0 z2 d σ' K
      | e => K e σ')
     ((aRun E m0 x a σ0 fun e σ' => match e with
      | .normal => aRun E m0 z1 d σ' (zea m0 ms)
      | e => zea m0 ms e σ').bind fun o => (aRun E m0 y b σ0 fun e σ' => match e with
      | .normal => aRun E m0 z2 d σ' (zea m0 ms)
      | e => zea m0 ms e σ').bind fun o' => if (@decide (o = o') (zgg ms o o')) then zvg ms o K else none)
   | _ => none
  | e => K e σ0
 | m0, _, .scp x, .scope c, σ, K => aRun E m0 x c σ fun e σ' => match e with
  | .goto _ => none
  | e => K e σ'
 | m0, _, .scj l x y, .scope c, σ, K => aRun E m0 x c σ fun e σ' => match e with
  | .goto l' => if l' = l then (match findLabel c l with
   | some rest => aRun E m0 y rest σ' fun e' σ'' => match e' with
    | .goto _ => none
    | e' => K e' σ''
   | none => none) else none
  | e => K e σ'
 | m0, _, .blk x, .block i c, σ, K => aRun E m0 x c σ fun e σ' => match e with
  | .exit j => if j = i then K .normal σ' else K (.exit j) σ'
  | e => K e σ'
 | m0, _, .loop h ms x, .loop c, σ, K => (h.proj m0 σ).bind fun t =>
   (E.it (fun t => aRun E m0 x c (h.inj t) fun e σ' => match e with
    | .normal => (h.proj m0 σ').bind fun t' => some (Sum.inl t')
    | e => (zea m0 ms e σ').bind fun o => some (Sum.inr o)) t).bind fun o => zvg ms o K
 | m0, _, .unr n x, .loop c, σ, K => z3g (fun σ K => aRun E m0 x c σ K) n σ K
 | m0, _, .no, .region _ ops false, σ, K => aOps E ops.toList ops.toList σ.tm σ.ob fun tm ob => K .normal ⟨tm, ob⟩
 | m0, _, .drw order W F, .region _ ops true, σ, K => if z40 ops order && W.all (fun p => p.2.all fun i => decide (i < σ.ob.length)) && F.all (fun p => p.2.all fun i => decide (i < σ.ob.length)) then zrc E ops W F (fun _ _ => false) order σ.tm σ.ob fun tm ob => K .normal ⟨tm, ob⟩ else none
 | m0, _, .drt ms order W F, .region _ ops true, σ, K => if z40 ops order && W.all (fun p => p.2.all fun i => decide (i < σ.ob.length)) && F.all (fun p => p.2.all fun i => decide (i < σ.ob.length)) then
   (zrc E ops W F (fun o o' => @decide (o = o') (zgg ms o o')) order σ.tm σ.ob fun tm ob => zea m0 ms .normal ⟨tm, ob⟩).bind fun o => zvg ms o K else none
 | m0, _, .no, .skip, σ, K => K .normal σ
 | m0, _, .no, .label _, σ, K => K .normal σ
 | m0, _, .no, .ret, σ, K => K .ret σ
 | m0, _, .no, .exit i, σ, K => K (.exit i) σ
 | m0, _, .no, .goto l, σ, K => K (.goto l) σ
 | m0, _, .rng k mask ax ab, .rangeFunc g ps as body, σ, K => match evD σ.tm g, E.yl, ax.still && ab.still with
  | .fn f [] caps, none, true => match (E.its f)[k]? with
   | some I =>
    let Y := z3i I.sigY σ.tm.length ps.toList (fun σ K => aRun E I.sigY.obs.length ax as σ K) (fun σ K => aRun E I.sigY.obs.length ab body σ K)
    zud { E with yl := some ⟨I.sigY, Y⟩, lpAt := σ.ob.length } (σ.ob ++ [.lp]) (.yld σ.ob.length (z3h mask 0 σ.tm) :: caps)
     (fun _ ob' fr _ => frz fr σ.tm ob' fun tm' ob'' => K .normal ⟨tm', ob''.set σ.ob.length .gone⟩) [⟨I.sig, I.F Y⟩]
   | none => none
  | _, _, _ => none
 | m0, _, _, _, _, _ => none

/-! -/
def z54 (E : Env) (σ : St) : ResultVar → (D → Option R) → Option R
 | .tmp t, K => K (σ.tm.getD t .any)
 | .cell a t, K => z27 E σ.ob t (σ.tm.getD a .any) K
def aRes (E : Env) (σ : St) : List ResultVar → (List D → Option R) → Option R
 | [], K => K []
 | r :: rs, K => z54 E σ r fun d => aRes E σ rs fun ds => K (d :: ds)
def aFn (E : Env) (fn : Func) (sig : Sig) (ann : Ann) (t : sig.In) : Option sig.Out :=
 match fn.body with
 | some c => aRun E sig.obs.length ann c ⟨injP id sig.args t.1 ++ List.replicate (fn.ntmps - (injP id sig.args t.1).length) .skip, injO id sig.obs t.2⟩ fun e σ => match e with
  | .normal | .ret => aRes E σ fn.results.toList fun ds => zsu sig ds σ.ob
  | _ => none
 | none => none
end Go.En
