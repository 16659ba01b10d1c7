/- All walks. -/
import Derived.Test.YtmkgfooomdagmaaDoorXFn2
